/- The walk of flumelaw06.ChunkSizes: true for all chunks. No conditions but the row's own. -/
import Derived.Test.YtaifihoheieneaaChkFirst
import Derived.Test.YtaifihoheieneaaChkSee
import Derived.Test.YtaifihoheieneaaChkSize
import Derived.IntWalk
namespace Go.Proofs.Ytaifihoheieneaa.ChunkSizes
open Go.RowKit Go.Proofs.Ytaifihoheieneaa.Mem Go.Proofs.Ytaifihoheieneaa.Octet Go.Proofs.Ytaifihoheieneaa.Prm Go.Proofs.Ytaifihoheieneaa.Chk
set_option linter.unusedVariables false
set_option linter.unusedSimpArgs false
theorem cB_form {c : Ck} (hE : cE c = 0) : ∃ (n q : Nat), (bB c).length + 4 = n ∧ 4 ≤ n ∧ n ≤ 65535 ∧ q < 4 ∧ (n + q) % 4 = 0 ∧ (cB c).length = n + q ∧ cB c = [c.k, fl c, (n : Int) / 256 % 256, (n : Int) % 256] ++ bB c ++ List.replicate q 0 := by
  have hl : (bB c).length + 4 ≤ 65535 := by
    unfold cE at hE
    split at hE
    · cases hE
    · split at hE
      · rename_i h; exact absurd hE h
      · split at hE
        · cases hE
        · omega
  refine ⟨(bB c).length + 4, (4 - ((bB c).length + 4) % 4) % 4, rfl, by omega, hl, by omega, by omega, ?_, ?_⟩
  · unfold cB b16
    simp only [List.length_append, List.length_cons, List.length_nil, List.length_replicate]
    omega
  · unfold cB b16
    simp
theorem sub_tail {w : World} {lo hi : Nat} {A : Option Addr} {c : Nat} {bs : List Int} (h : SlB w lo hi (.slice A bs.length c) bs) (l : Nat) (hl : l ≤ bs.length) : SlB w lo hi (.slice (if c = l then A else A.map (·.add l)) (bs.drop l).length (c - l)) (bs.drop l) := by
  obtain ⟨A', c', e, h1, h2, h3, h4⟩ := h
  injection e with e1 e2 e3
  subst e1; subst e3
  refine ⟨if c = l then A else A.map (·.add l), c - l, rfl, by rw [List.length_drop]; omega, by omega, fun h => ?_, h4.drop hl (by omega)⟩
  by_cases hc : c = l
  · omega
  · rw [if_neg hc] at h
    have := h3 (by simpa using h)
    omega
set_option maxHeartbeats 4000000 in
set_option maxRecDepth 100000 in
theorem walk (cs : List Value) (w : World) (hsee : Sees Try.prog w 31 cs) :
    Calls Try.prog 7 #[.agg ⟨cs⟩] w fun e w' => e = .returned (.bool true) ∧ Below w.heap.size w w' := by
  obtain ⟨c, hC, hBd, -, -, -, hpl, -⟩ := ck_of_see hsee
  obtain ⟨X, hX⟩ : ∃ X, cs.toArray = X := ⟨_, rfl⟩
  rw [hX] at hC
  rw [show (Value.agg ⟨cs⟩) = .agg X by rw [← hX]]
  clear hX hsee
  have hup := Try.underlying31
  have hsz := hC.size
  have HCK := Lib.hid hC
  have HBD := Lib.hid hBd
  have B0 : Below w.heap.size w (w.alloc (.cells X 31)) := (Below.refl _ w).alloc (Nat.le_refl _) _
  have bC := Blk.new w X 31
  clear hC hBd
  go_enter Try.func7, Try.ntmps7
  go_wp2_with fail
  refine (first_calls _).mono ?_
  rintro e w0 ⟨rfl, B1⟩
  have bC0 := bC.fr (Fr.of_below (S := nothing) B1) id
  have B2 := Bl.trans B0 (Bl.low B1 (by simp))
  clear B0 B1 bC
  go_upto_region 3 with fail
  refine wp_region_lit ?_
  refine wpList_plain rfl (fun K hK => ?_)
  refine Mem.oper_load rfl rfl bC0 hup rfl (by rw [hsz]; kernel_rfl) ?_
  refine hK _ _ ?_
  clear hK K
  go_wp2_with fail
  refine (size_calls _ _ _ c w0 (HCK.out.bl B2 (Nat.le_refl _)) B2.size hpl).mono ?_
  rintro e w1 ⟨rfl, B3⟩
  have bC1 := bC0.fr (Fr.of_below (S := nothing) B3) id
  have B4 := Bl.trans B2 (Bl.low B3 B2.size)
  clear bC0 B2 B3
  by_cases hs : 400000 < szC c
  · have hd : decide ((400000 : Int) < szC c) = true := decide_eq_true hs
    clear hs
    go_wp2
    go_ret
    exact ⟨rfl, B4⟩
  have hd : decide ((400000 : Int) < szC c) = false := decide_eq_false hs
  have hL := ckl_of (c := c) (by omega)
  have CP := cput_calls _ _ _ c w1 (HCK.out.bl B4 (Nat.le_refl _)) B4.size HBD.out hL
  unfold PutC at CP
  by_cases hE : cE c = 0
  · rw [cO_ok hE, hE] at CP
    have HCP := Lib.hid CP
    clear CP hs
    go_upto_region 5 with fail
    refine wp_region_lit ?_
    refine wpList_plain rfl (fun K hK => ?_)
    refine Mem.oper_load rfl rfl bC1 hup rfl (by rw [hsz]; kernel_rfl) ?_
    refine hK _ _ ?_
    clear hK K
    go_wp2_with fail
    refine HCP.out.mono ?_
    rintro e w2 ⟨B5, A, p, rfl, o⟩
    have bC2 := bC1.fr (Fr.of_below (S := nothing) B5) id
    have B6 := Bl.trans B4 (Bl.low B5 B4.size)
    obtain ⟨n, q, hn, hn4, hn5, hq, hm4, hzl, hzs⟩ := cB_form hE
    have XB := SlB.of_own o
    generalize cB c = zs at *
    obtain ⟨A', cap', e1, q1, q2, q3, q4⟩ := id XB
    injection e1 with e1 e2 e3
    subst e1; subst e3
    obtain ⟨ad, rfl, k0⟩ := q4.at_ 0 (by omega)
    obtain ⟨ad2, e2a, k2⟩ := q4.at_ 2 (by omega)
    obtain ⟨ad3, e3a, k3⟩ := q4.at_ 3 (by omega)
    injection e2a with e2a
    injection e3a with e3a
    subst e2a; subst e3a
    have v0 : zs[0]'(by omega) = c.k := by simp [hzs]
    have v2 : zs[2]'(by omega) = (n : Int) / 256 % 256 := by simp [hzs]
    have v3 : zs[3]'(by omega) = (n : Int) % 256 := by simp [hzs]
    rw [v0] at k0
    rw [v2] at k2
    rw [v3] at k3
    rw [add_zero_] at k0
    have hrest : zs.drop n = List.replicate q 0 := by
      rw [hzs, List.append_assoc, ← List.append_assoc [c.k, fl c, (n : Int) / 256 % 256, (n : Int) % 256] (bB c)]
      apply List.drop_left'
      simp
      omega
    have hkr := HBD.out.k
    have ck := (bC2.cell 0).trans HCK.out.c0
    obtain ⟨M, hM⟩ : ∃ M : Nat, zs.length = M := ⟨_, rfl⟩
    have hpM : M ≤ p := by omega
    have ST := sub_tail XB n (by omega)
    rw [hrest] at ST
    have HST := Lib.hid ST
    have HZ := Lib.hid (And.intro hzl hM)
    obtain ⟨z2, hz2⟩ : ∃ x : Int, (n : Int) / 256 % 256 = x := ⟨_, rfl⟩
    obtain ⟨z3, hz3⟩ : ∃ x : Int, (n : Int) % 256 = x := ⟨_, rfl⟩
    rw [hz2] at k2
    rw [hz3] at k3
    replace k2 : w2.cell? ⟨ad.block, ad.off + 2, none⟩ = some (.int .u8 z2) := k2
    replace k3 : w2.cell? ⟨ad.block, ad.off + 3, none⟩ = some (.int .u8 z3) := k3
    have b2 : (2 : Int) < M := by omega
    have b3 : (3 : Int) < M := by omega
    have w2e : IntKind.i64.wrap z2 = z2 := IntWalk.i64_in _ (by omega)
    have w3e : IntKind.i64.wrap z3 = z3 := IntWalk.i64_in _ (by omega)
    have w4e : IntKind.i64.wrap (256 * z2) = 256 * z2 := IntWalk.i64_in _ (by omega)
    have w5e : IntKind.i64.wrap (256 * z2 + z3) = (n : Int) := by rw [IntWalk.i64_in _ (by omega)]; omega
    rw [hM]
    clear XB q1 q2 q3 q4 v0 v2 v3 hzs hrest hz2 hz3 hzl hM ST o HCP bC1 B4 B5
    go_wp2_with fail
    go_quiet (fail)
    have FD : Fr nothing w2 (w2.drewN nq) := (Fr.refl _ w2).drewN nq
    replace k0 := cell_fr FD k0 id
    replace ck := cell_fr FD ck id
    have HS3 := Lib.hid (HST.out.fr FD (fun _ _ _ h => h))
    have B7 := Bl.trans B6 (Bl.of_fr FD B6.size (fun k h => h.elim))
    generalize w2.drewN nq = w3 at *
    have hnM : (n : Int) ≤ M := by have := HZ.out; omega
    have hpM2 : (M : Int) ≤ p := by omega
    clear FD HST k2 k3 b2 b3 w2e w3e w4e w5e bC2 B6
    have hMq : M - n = q := by have := HZ.out; omega
    have hm4' : (M : Int) % 4 = 0 := by have := HZ.out; omega
    have HM := Lib.hid (And.intro hm4' (And.intro hMq hn4))
    clear hm4' hMq
    by_cases hpn : p = n
    · rw [if_pos hpn] at HS3
      go_wp2_with fail
      rw [HM.out.2.1]
      go_loopw [37] (fun i wr => ∃ j : Nat, j ≤ q ∧ i = .int .i64 j ∧ wr = w3) (fun i _ => q - (intOf i).toNat)
      case atStart => exact ⟨0, Nat.zero_le _, rfl, rfl⟩
      case round =>
        obtain ⟨j, hj, rfl, rfl⟩ := hrel
        by_cases hlt : j < q
        · have hjl : (j : Int) < q := by omega
          obtain ⟨A', c', e, h1, h2, h3, h4⟩ := HS3.out
          injection e with e1 e2 e3
          subst e1
          obtain ⟨ad9, e9, k9⟩ := h4.at_ j (by rw [List.length_replicate]; exact hlt)
          rw [List.getElem_replicate] at k9
          injection e9 with e9
          subst e9
          clear h1 h2 h3 h4 e2 e3
          go_wp2
          go_roundw
          case rel => exact ⟨j + 1, by omega, by go_num, by first | rfl | trivial⟩
          case measure => simp [intOf]; omega
        · obtain rfl : j = q := by omega
          have hjl : ¬ ((j : Nat) : Int) < j := by omega
          have g0 : (0 : Int) < M := by have := HZ.out; omega
          have g1 : decide ((4 : Int) ≤ (n : Int)) = true := decide_eq_true (by have := HM.out; omega)
          have g2 : decide ((M : Int) - (n : Int) < 4) = true := decide_eq_true (by have := HM.out; omega)
          have g3 : decide ((n : Int) ≤ (M : Int)) = true := decide_eq_true hnM
          have g4 : (c.k == c.k) = true := by simp
          have g5 : IntKind.i64.wrap ((M : Int) - (n : Int)) = (M : Int) - (n : Int) := IntWalk.i64_in _ (by have := HM.out; omega)
          have g6 : (M : Int).tmod 4 = 0 := by rw [Int.tmod_eq_emod_of_nonneg (by omega)]; exact HM.out.1
          have g7 := HM.out.1
          clear hlt hj
          go_wp2_with fail
          go_quiet (fail)
          go_wp2
          go_ret
          exact ⟨rfl, Bl.trans B7 (Bl.of_fr (S := nothing) ((Fr.refl _ _).drewN _) B7.size (fun k h => h.elim))⟩
    · rw [if_neg hpn] at HS3
      go_wp2_with fail
      rw [HM.out.2.1]
      go_loopw [37] (fun i wr => ∃ j : Nat, j ≤ q ∧ i = .int .i64 j ∧ wr = w3) (fun i _ => q - (intOf i).toNat)
      case atStart => exact ⟨0, Nat.zero_le _, rfl, rfl⟩
      case round =>
        obtain ⟨j, hj, rfl, rfl⟩ := hrel
        by_cases hlt : j < q
        · have hjl : (j : Int) < q := by omega
          obtain ⟨A', c', e, h1, h2, h3, h4⟩ := HS3.out
          injection e with e1 e2 e3
          subst e1
          obtain ⟨ad9, e9, k9⟩ := h4.at_ j (by rw [List.length_replicate]; exact hlt)
          rw [List.getElem_replicate] at k9
          injection e9 with e9
          subst e9
          clear h1 h2 h3 h4 e2 e3
          go_wp2
          go_roundw
          case rel => exact ⟨j + 1, by omega, by go_num, by first | rfl | trivial⟩
          case measure => simp [intOf]; omega
        · obtain rfl : j = q := by omega
          have hjl : ¬ ((j : Nat) : Int) < j := by omega
          have g0 : (0 : Int) < M := by have := HZ.out; omega
          have g1 : decide ((4 : Int) ≤ (n : Int)) = true := decide_eq_true (by have := HM.out; omega)
          have g2 : decide ((M : Int) - (n : Int) < 4) = true := decide_eq_true (by have := HM.out; omega)
          have g3 : decide ((n : Int) ≤ (M : Int)) = true := decide_eq_true hnM
          have g4 : (c.k == c.k) = true := by simp
          have g5 : IntKind.i64.wrap ((M : Int) - (n : Int)) = (M : Int) - (n : Int) := IntWalk.i64_in _ (by have := HM.out; omega)
          have g6 : (M : Int).tmod 4 = 0 := by rw [Int.tmod_eq_emod_of_nonneg (by omega)]; exact HM.out.1
          have g7 := HM.out.1
          clear hlt hj
          go_wp2_with fail
          go_quiet (fail)
          go_wp2
          go_ret
          exact ⟨rfl, Bl.trans B7 (Bl.of_fr (S := nothing) ((Fr.refl _ _).drewN _) B7.size (fun k h => h.elim))⟩
  · rw [cO_bad hE] at CP
    have HCP := Lib.hid CP
    have hne : (cE c != 0) = true := by simpa using hE
    clear CP hs hE
    go_upto_region 5 with fail
    refine wp_region_lit ?_
    refine wpList_plain rfl (fun K hK => ?_)
    refine Mem.oper_load rfl rfl bC1 hup rfl (by rw [hsz]; kernel_rfl) ?_
    refine hK _ _ ?_
    clear hK K
    go_wp2_with fail
    refine HCP.out.mono ?_
    rintro e w2 ⟨B5, A, p, rfl, -⟩
    have B6 := Bl.trans B4 (Bl.low B5 B4.size)
    clear HCP
    go_wp2
    go_ret
    exact ⟨rfl, B6⟩
end Go.Proofs.Ytaifihoheieneaa.ChunkSizes
