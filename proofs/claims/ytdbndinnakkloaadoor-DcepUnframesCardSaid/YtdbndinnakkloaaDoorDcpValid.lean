/- The contract of unicode/utf8.Valid, of bytes. Conditions: utf8's tables read as laid. -/
import Derived.Test.YtdbndinnakkloaaDoorDcpWord
import Derived.Test.YtdbndinnakkloaaDoorDcpFirst
import Derived.Deep.CutBlock
import Derived.Deep.DeepCutAuto
namespace Go.Proofs.YtdbndinnakkloaaDoor.Dcp
open Go Go.RowKit Go.Lib Go.Shelf Go.Proofs Go.Proofs.YtdbndinnakkloaaDoor.Mem Go.Proofs.YtdbndinnakkloaaDoor.Octet
set_option linter.unusedVariables false
set_option linter.unusedSimpArgs false
theorem sub_tail {w : World} {lo hi : Nat} {A : Option Addr} {c : Nat} {bs : List Int} (h : SlB w lo hi (.slice A bs.length c) bs) (l : Nat) (hl : l ≤ bs.length) : SlB w lo hi (.slice (if c = l then A else A.map (·.add l)) (bs.drop l).length (c - l)) (bs.drop l) := by
  obtain ⟨A', c', e, h1, h2, h3, h4⟩ := h
  injection e with e1 e2 e3
  subst e1; subst e3
  refine ⟨if c = l then A else A.map (·.add l), c - l, rfl, by rw [List.length_drop]; omega, by omega, fun h => ?_, h4.drop hl (by omega)⟩
  by_cases hc : c = l
  · omega
  · rw [if_neg hc] at h
    have := h3 (by simpa using h)
    omega
theorem SlB_cap {w : World} {lo hi : Nat} {A : Option Addr} {n c : Nat} {bs : List Int} (h : SlB w lo hi (.slice A n c) bs) : n ≤ c := by
  obtain ⟨A', c', e, h1, h2, h3, h4⟩ := h
  injection e with e1 e2 e3
  omega
theorem u8s_at {xs : List Int} (hB : IsB xs) {i : Nat} (hi : i < xs.length) : (((u8s xs).getD i 0).toNat : Int) = xs[i] := by
  have h := hB _ (List.getElem_mem hi)
  simp [u8s, List.getD, hi, UInt8.toNat_ofNat']
  omega
theorem chk2 {n y1 y2 y3 lo hi : Nat} (f : Nat → Bool) : (match checkN n y1 y2 y3 2 lo hi with | none => false | some k => f k) = if n < 2 ∨ y1 < lo ∨ hi < y1 then false else f 2 := by
  unfold checkN
  rw [if_pos rfl]
  by_cases h : n < 2 ∨ y1 < lo ∨ hi < y1
  · rw [if_pos h, if_pos h]
  · rw [if_neg h, if_neg h]
theorem chk3 {n y1 y2 y3 lo hi : Nat} (f : Nat → Bool) : (match checkN n y1 y2 y3 3 lo hi with | none => false | some k => f k) = if n < 3 ∨ y1 < lo ∨ hi < y1 ∨ y2 < 128 ∨ 191 < y2 then false else f 3 := by
  unfold checkN
  rw [if_neg (by decide), if_pos rfl]
  by_cases h : n < 3 ∨ y1 < lo ∨ hi < y1 ∨ y2 < 128 ∨ 191 < y2
  · rw [if_pos h, if_pos h]
  · rw [if_neg h, if_neg h]
theorem chk4 {n y1 y2 y3 lo hi : Nat} (f : Nat → Bool) : (match checkN n y1 y2 y3 4 lo hi with | none => false | some k => f k) = if n < 4 ∨ y1 < lo ∨ hi < y1 ∨ y2 < 128 ∨ 191 < y2 ∨ y3 < 128 ∨ 191 < y3 then false else f 4 := by
  unfold checkN
  rw [if_neg (by decide), if_neg (by decide), if_pos rfl]
  by_cases h : n < 4 ∨ y1 < lo ∨ hi < y1 ∨ y2 < 128 ∨ 191 < y2 ∨ y3 < 128 ∨ 191 < y3
  · rw [if_pos h, if_pos h]
  · rw [if_neg h, if_neg h]
theorem chk0 {n y1 y2 y3 sz lo hi : Nat} (f : Nat → Bool) (h2 : ¬ sz = 2) (h3 : ¬ sz = 3) (h4 : ¬ sz = 4) : (match checkN n y1 y2 y3 sz lo hi with | none => false | some k => f k) = false := by
  unfold checkN
  rw [if_neg h2, if_neg h3, if_neg h4]
/-- Eight bytes as a word. -/
theorem word_calls (lo hi : Nat) (ad : Addr) (n c : Nat) (xs : List Int) (w : World) (h : SlB w lo hi (.slice (some ad) n c) xs) (hn : n = xs.length) (h8 : 8 ≤ n) (hB : IsB xs) :
    Calls Tryd.prog 39 #[.slice (some ad) n c] w fun e w' => e = .returned (.int .u64 (wd xs : Nat)) ∧ ∃ q, w' = w.drewN q := by
  obtain ⟨A', c', e, h1, h2, h3, h4⟩ := h
  injection e with e1 e2 e3
  subst e1
  have key : ∀ i, i < 8 → ∃ x : Nat, x < 256 ∧ ((u8s (xs.take 8)).getD i 0).toNat = x ∧ w.cell? (ad.add i) = some (.int .u8 (x : Int)) := by
    intro i hi
    have hix : i < xs.length := by omega
    obtain ⟨ad', e5, hc⟩ := h4.at_ i hix
    injection e5 with e5
    subst e5
    have hb := hB _ (List.getElem_mem hix)
    refine ⟨xs[i].toNat, by omega, ?_, by rw [hc]; congr 2; omega⟩
    have := u8s_at (xs := xs.take 8) (fun x hx => hB x (List.mem_of_mem_take hx)) (i := i) (by rw [List.length_take]; omega)
    rw [List.getElem_take] at this
    omega
  obtain ⟨x0, b0, f0, k0⟩ := key 0 (by omega)
  obtain ⟨x1, b1, f1, k1⟩ := key 1 (by omega)
  obtain ⟨x2, b2, f2, k2⟩ := key 2 (by omega)
  obtain ⟨x3, b3, f3, k3⟩ := key 3 (by omega)
  obtain ⟨x4, b4, f4, k4⟩ := key 4 (by omega)
  obtain ⟨x5, b5, f5, k5⟩ := key 5 (by omega)
  obtain ⟨x6, b6, f6, k6⟩ := key 6 (by omega)
  obtain ⟨x7, b7, f7, k7⟩ := key 7 (by omega)
  have hl : (u8s (xs.take 8)).length = 8 := by simp [u8s]; omega
  have hw : ((wd xs : Nat) : Int) = (x0 : Int) + (x1 : Int) * 256 + (x2 : Int) * 65536 + (x3 : Int) * 16777216 + (x4 : Int) * 4294967296 + (x5 : Int) * 1099511627776 + (x6 : Int) * 281474976710656 + (x7 : Int) * 72057594037927936 := by
    unfold wd
    generalize u8s (xs.take 8) = us at *
    match us, hl with
    | [u0, u1, u2, u3, u4, u5, u6, u7], _ =>
      simp only [List.getD, List.getElem?_cons_zero, List.getElem?_cons_succ, Option.getD_some] at f0 f1 f2 f3 f4 f5 f6 f7
      simp only [leNat, f0, f1, f2, f3, f4, f5, f6, f7]
      omega
  rw [hw]
  exact word_at ad n c x0 x1 x2 x3 x4 x5 x6 x7 w h8 b0 b1 b2 b3 b4 b5 b6 b7 k0 k1 k2 k3 k4 k5 k6 k7
set_option maxHeartbeats 8000000 in
set_option maxRecDepth 100000 in
theorem uvalid_bytes (lo hi : Nat) (v : Value) (xs : List Int) (w : World) (hT : Tabs w) (h : SlB w lo hi v xs) (hB : IsB xs) :
    Calls Tryd.prog 34 #[v] w fun e w' => e = .returned (.bool (vl xs)) ∧ Below w.heap.size w w' := by
  obtain ⟨ANS, hANS⟩ : ∃ ANS, vl xs = ANS := ⟨_, rfl⟩
  rw [hANS]
  have HANS := Lib.hid hANS
  obtain ⟨A, c, rfl, q1, q2, q3, q4⟩ := h
  have hml : maxLen = 9223372036854775807 := rfl
  clear hANS
  go_enter Tryd.func34, Tryd.ntmps34
  go_wp2_with fail
  have X0 : SlB w lo hi (.slice A xs.length xs.length) xs := ⟨A, xs.length, rfl, Nat.le_refl _, Nat.le_trans q1 q2, (fun h => by have := q3 h; omega), q4⟩
  clear q1 q2 q3 q4
  go_loopg [0] (xs.length + 1) (fun gk s0 wx => Below w.heap.size w wx ∧ ∃ (ys : List Int) (A : Option Addr) (c : Nat), s0 = .slice A ys.length c ∧ SlB wx lo hi (.slice A ys.length c) ys ∧ IsB ys ∧ RowKit.Hid (vl ys = ANS) ∧ ys.length < gk)
  case atStart => exact ⟨Below.refl _ _, xs, A, xs.length, rfl, X0, hB, HANS, by omega⟩
  case round =>
    clear X0 hB HANS
    obtain ⟨hbw, ys, A, c, rfl, X, hB, HV, hg⟩ := hrel
    by_cases h0 : 0 < ys.length
    · obtain ⟨g', rfl⟩ : ∃ g', gk = g' + 1 := ⟨gk - 1, by omega⟩
      have h0z : (0 : Int) < (ys.length : Int) := by omega
      have hyl : ys.length ≤ c := SlB_cap X
      have hc0 : ¬ c = 0 := by omega
      obtain ⟨A', c', e, q1, q2, q3, q4⟩ := id X
      injection e with e1 e2 e3
      subst e1; subst e3
      obtain ⟨ad, rfl, hc⟩ := q4.at_ 0 h0
      rw [add_zero_] at hc
      have hb0 := hB _ (List.getElem_mem h0)
      have HX := Lib.hid X
      have HU0 := Lib.hid (u8s_at hB h0)
      clear q1 q2 q3 q4 e2 X
      obtain ⟨b0, hb0e⟩ : ∃ b0, ys[0] = b0 := ⟨_, rfl⟩
      rw [hb0e] at hc hb0 HU0
      clear hb0e
      by_cases hasc : b0 < 128
      · as_aux_lemma =>
          have hd : decide (b0 < 128) = true := decide_eq_true hasc
          have V1 := Lib.hid (show vl (ys.drop 1) = ANS by
            rw [vl_skip (k := 1) (fun b hb => ?_)]
            · exact HV.out
            · have hl : (u8s ys).length = ys.length := by simp [u8s]
              cases hu : u8s ys with
              | nil => rw [hu] at hb; simp at hb
              | cons u us =>
                rw [hu] at hb
                simp at hb
                subst hb
                have h := HU0.out
                rw [hu] at h
                simp [List.getD] at h
                omega)
          have S1 := sub_tail HX.out 1 h0
          obtain ⟨A1, hA1⟩ : ∃ A1, (if c = 1 then some ad else some ({ block := ad.block, off := ad.off + 1 } : Addr)) = A1 := ⟨_, rfl⟩
          have S1' : SlB wr lo hi (.slice A1 (ys.drop 1).length (c - 1)) (ys.drop 1) := by rw [← hA1]; exact S1
          have hsub : ys.length - 1 = (ys.drop 1).length := by simp
          have hB1 : IsB (ys.drop 1) := fun x hx => hB x (List.mem_of_mem_drop hx)
          have HS1 := Lib.hid S1'
          have HSB := Lib.hid hsub
          have HB1 := Lib.hid hB1
          have hbc1 : (1 : Int) ≤ (ys.length : Int) := by omega
          clear S1 S1' hsub hB1
          go_upto_region 6 with fail
          rw [HSB.out]
          have HLT := Lib.hid (show (ys.drop 1).length + 1 = ys.length by simp; omega)
          clear HSB hA1 hbc1 HU0 HX hc hd hc0 hyl h0z hasc
          generalize ys.drop 1 = ts at *
          generalize c - 1 = c1 at *
          by_cases c8 : 8 < ts.length
          · have c8z : (8 : Int) < (ts.length : Int) := by omega
            have s8 : (8 : Int) ≤ (ts.length : Int) := by omega
            obtain ⟨A', c', e, q1, q2, q3, q4⟩ := id HS1.out
            injection e with e1 e2 e3
            subst e1; subst e3
            obtain ⟨a1, rfl, -⟩ := q4.at_ 0 (by omega)
            have hn8 : ¬ c1 = 8 := by omega
            clear q2 q3 q4 e2
            have CW := Lib.hid (word_calls lo hi a1 ts.length c1 ts wr HS1.out rfl (by omega) HB1.out)
            have lW := wd_lt ts
            have kW := Lib.hid (fun e => vl_8 (xs := ts) (by omega) e)
            generalize wd ts = W at *
            have hand : bits .and .u64 (W : Int) 9259542123273814144 = ((W &&& 9259542123273814144 : Nat) : Int) := u64_and_nat W 9259542123273814144 lW (by omega)
            obtain ⟨Z, hZ⟩ : ∃ Z, W &&& 9259542123273814144 = Z := ⟨_, rfl⟩
            rw [hZ] at hand kW
            clear hZ lW
            by_cases hz : Z = 0
            · have hzb : ((Z : Int) == 0) = true := by simp [hz]
              have V2 := Lib.hid (show vl (ts.drop 8) = ANS by rw [kW.out hz]; exact V1.out)
              have S2 := sub_tail HS1.out 8 (by omega)
              rw [if_neg hn8] at S2
              have hu8 : (ts.drop 8).length + 8 = ts.length := by simp; omega
              have hsub : ts.length - 8 = (ts.drop 8).length := by simp
              have HSB := Lib.hid hsub
              have HB2 := Lib.hid (show IsB (ts.drop 8) from fun x hx => HB1.out x (List.mem_of_mem_drop hx))
              have HS2 := Lib.hid S2
              clear S2 hsub kW
              go_wp2_with fail
              refine CW.out.mono ?_
              rintro e W1 ⟨rfl, k1, rfl⟩
              go_upto_region 8 with fail
              rw [HSB.out]
              have FD : Fr nothing wr (wr.drewN k1) := (Fr.refl _ wr).drewN k1
              have hb1 := Bl.trans hbw (Bl.of_fr FD hbw.size (fun k h => False.elim h))
              have S3 := HS2.out.fr FD (fun _ _ _ h => h)
              clear HS2 HSB FD CW hand hzb hz hbw
              generalize wr.drewN k1 = wq at *
              generalize ts.drop 8 = us at *
              have S3' : SlB wq lo hi (.slice (some (⟨a1.block, a1.off + 8, none⟩ : Addr)) us.length (c1 - 8)) us := S3
              clear S3
              generalize (⟨a1.block, a1.off + 8, none⟩ : Addr) = a2 at *
              have hcc : us.length ≤ c1 - 8 := SlB_cap S3'
              generalize c1 - 8 = c2 at *
              have HS3 := Lib.hid S3'
              clear S3'
              by_cases c16 : 16 < us.length
              · have c16z : (16 : Int) < (us.length : Int) := by omega
                have s8u : (8 : Int) ≤ (us.length : Int) := by omega
                have s16u : (16 : Int) ≤ (us.length : Int) := by omega
                have hn8u : ¬ c2 = 8 := by omega
                have hn16u : ¬ c2 = 16 := by omega
                have CW2 := Lib.hid (fun n => word_calls lo hi a2 us.length c2 us (wq.drewN n) (HS3.out.fr ((Fr.refl nothing wq).drewN n) (fun _ _ _ h => h)) rfl (by omega) HB2.out)
                have S4 := sub_tail HS3.out 8 (by omega)
                rw [if_neg hn8u] at S4
                have S4' : SlB wq lo hi (.slice (some (⟨a2.block, a2.off + 8, none⟩ : Addr)) (us.drop 8).length (c2 - 8)) (us.drop 8) := S4
                have e8 : us.length - 8 = (us.drop 8).length := by simp
                have CW3 := Lib.hid (fun n => word_calls lo hi ⟨a2.block, a2.off + 8, none⟩ (us.length - 8) (c2 - 8) (us.drop 8) (wq.drewN n) (by rw [e8]; exact S4'.fr ((Fr.refl nothing wq).drewN n) (fun _ _ _ h => h)) e8 (by omega) (fun x hx => HB2.out x (List.mem_of_mem_drop hx)))
                have lW2 := wd_lt us
                have lW3 := wd_lt (us.drop 8)
                have kW := Lib.hid (fun e => vl_16 (xs := us) (by omega) e)
                have S5 := sub_tail HS3.out 16 (by omega)
                rw [if_neg hn16u] at S5
                have HS5 := Lib.hid S5
                have HSB := Lib.hid (show us.length - 16 = (us.drop 16).length by simp)
                have HB5 := Lib.hid (show IsB (us.drop 16) from fun x hx => HB2.out x (List.mem_of_mem_drop hx))
                have HL5 := Lib.hid (show (us.drop 16).length + 16 = us.length by simp; omega)
                clear S4 S4' e8 S5
                generalize wd us = P at *
                generalize wd (us.drop 8) = Q at *
                have hor : bits .or .u64 (P : Int) (Q : Int) = ((P ||| Q : Nat) : Int) := u64_or_nat P Q lW2 lW3
                have lor : P ||| Q < 18446744073709551616 := Nat.or_lt_two_pow (n := 64) lW2 lW3
                have hand : bits .and .u64 ((P ||| Q : Nat) : Int) 9259542123273814144 = (((P ||| Q) &&& 9259542123273814144 : Nat) : Int) := u64_and_nat _ 9259542123273814144 lor (by omega)
                obtain ⟨O2, hO2⟩ : ∃ O2, P ||| Q = O2 := ⟨_, rfl⟩
                rw [hO2] at hor hand kW
                obtain ⟨Z2, hZ2⟩ : ∃ Z2, O2 &&& 9259542123273814144 = Z2 := ⟨_, rfl⟩
                rw [hZ2] at hand kW
                clear hO2 hZ2 lor lW2 lW3
                by_cases hz2 : Z2 = 0
                · have hz2b : ((Z2 : Int) == 0) = true := by simp [hz2]
                  have V3 := Lib.hid (show vl (us.drop 16) = ANS by rw [kW.out hz2]; exact V2.out)
                  clear kW
                  go_quiet (first | (go_at_call 39; with_reducible exact Calls.quiet_of (CW2.out _)) | (go_at_call 39; exact Calls.quiet_of (CW3.out _)))
                  have FD : Fr nothing wq (wq.drewN nq) := (Fr.refl _ wq).drewN nq
                  have hb2 := Bl.trans hb1 (Bl.of_fr FD hb1.size (fun k h => False.elim h))
                  have S6 := HS5.out.fr FD (fun _ _ _ h => h)
                  generalize wq.drewN nq = wq2 at *
                  clear CW2 CW3 hor hand hz2b hz2 HS5 FD hb1
                  go_upto_region 10 with fail
                  rw [HSB.out]
                  have S7 : SlB wq2 lo hi (.slice (some (⟨a2.block, a2.off + 16, none⟩ : Addr)) (us.drop 16).length (c2 - 16)) (us.drop 16) := S6
                  clear S6 HSB
                  generalize us.drop 16 = vs at *
                  generalize (⟨a2.block, a2.off + 16, none⟩ : Addr) = a3 at *
                  generalize c2 - 16 = c3 at *
                  go_loopg [0] (vs.length + 1) (fun g2 s0 wx => Below w.heap.size w wx ∧ ∃ (zs : List Int) (A : Option Addr) (c : Nat), s0 = .slice A zs.length c ∧ SlB wx lo hi (.slice A zs.length c) zs ∧ IsB zs ∧ RowKit.Hid (vl zs = ANS) ∧ zs.length < g2 ∧ zs.length ≤ vs.length)
                  case atStart => exact ⟨hb2, vs, _, _, rfl, S7, HB5.out, V3, by omega, Nat.le_refl _⟩
                  case round =>
                    clear S7 hb2 HB5 V3
                    obtain ⟨hbx, zs, A4, c4, rfl, SZ, HBZ, VZ, hgz, hzv⟩ := hrel
                    by_cases c32 : 32 < zs.length
                    · obtain ⟨g3, rfl⟩ : ∃ g3, gk = g3 + 1 := ⟨gk - 1, by omega⟩
                      have c32z : (32 : Int) < (zs.length : Int) := by omega
                      obtain ⟨A', c', e, q1, q2, q3, q4⟩ := id SZ
                      injection e with e1 e2 e3
                      subst e1; subst e3
                      obtain ⟨a4, rfl, -⟩ := q4.at_ 0 (by omega)
                      clear q2 q3 q4 e2
                      have CA0 := Lib.hid (fun n => word_calls lo hi a4 zs.length c4 zs (wr.drewN n) (SZ.fr ((Fr.refl nothing wr).drewN n) (fun _ _ _ h => h)) rfl (by omega) HBZ)
                      have T1 := sub_tail SZ 8 (by omega)
                      rw [if_neg (show ¬ c4 = 8 by omega)] at T1
                      have T1' : SlB wr lo hi (.slice (some (⟨a4.block, a4.off + 8, none⟩ : Addr)) (zs.drop 8).length (c4 - 8)) (zs.drop 8) := T1
                      have e1 : zs.length - 8 = (zs.drop 8).length := by simp
                      have CA1 := Lib.hid (fun n => word_calls lo hi ⟨a4.block, a4.off + 8, none⟩ (zs.length - 8) (c4 - 8) (zs.drop 8) (wr.drewN n) (by rw [e1]; exact T1'.fr ((Fr.refl nothing wr).drewN n) (fun _ _ _ h => h)) e1 (by omega) (fun x hx => HBZ x (List.mem_of_mem_drop hx)))
                      have s1u : (8 : Int) ≤ (zs.length : Int) := by omega
                      have hn1u : ¬ c4 = 8 := by omega
                      have T2 := sub_tail SZ 16 (by omega)
                      rw [if_neg (show ¬ c4 = 16 by omega)] at T2
                      have T2' : SlB wr lo hi (.slice (some (⟨a4.block, a4.off + 16, none⟩ : Addr)) (zs.drop 16).length (c4 - 16)) (zs.drop 16) := T2
                      have e2 : zs.length - 16 = (zs.drop 16).length := by simp
                      have CA2 := Lib.hid (fun n => word_calls lo hi ⟨a4.block, a4.off + 16, none⟩ (zs.length - 16) (c4 - 16) (zs.drop 16) (wr.drewN n) (by rw [e2]; exact T2'.fr ((Fr.refl nothing wr).drewN n) (fun _ _ _ h => h)) e2 (by omega) (fun x hx => HBZ x (List.mem_of_mem_drop hx)))
                      have s2u : (16 : Int) ≤ (zs.length : Int) := by omega
                      have hn2u : ¬ c4 = 16 := by omega
                      have T3 := sub_tail SZ 24 (by omega)
                      rw [if_neg (show ¬ c4 = 24 by omega)] at T3
                      have T3' : SlB wr lo hi (.slice (some (⟨a4.block, a4.off + 24, none⟩ : Addr)) (zs.drop 24).length (c4 - 24)) (zs.drop 24) := T3
                      have e3 : zs.length - 24 = (zs.drop 24).length := by simp
                      have CA3 := Lib.hid (fun n => word_calls lo hi ⟨a4.block, a4.off + 24, none⟩ (zs.length - 24) (c4 - 24) (zs.drop 24) (wr.drewN n) (by rw [e3]; exact T3'.fr ((Fr.refl nothing wr).drewN n) (fun _ _ _ h => h)) e3 (by omega) (fun x hx => HBZ x (List.mem_of_mem_drop hx)))
                      have s3u : (24 : Int) ≤ (zs.length : Int) := by omega
                      have hn3u : ¬ c4 = 24 := by omega
                      have S8 := sub_tail SZ 32 (by omega)
                      rw [if_neg (show ¬ c4 = 32 by omega)] at S8
                      have s32u : (32 : Int) ≤ (zs.length : Int) := by omega
                      have hn32u : ¬ c4 = 32 := by omega
                      have HS8 := Lib.hid S8
                      have HSZ := Lib.hid SZ
                      have HBZ' := Lib.hid HBZ
                      have HSB := Lib.hid (show zs.length - 32 = (zs.drop 32).length by simp)
                      have HL8 := Lib.hid (show (zs.drop 32).length + 32 = zs.length by simp; omega)
                      have HB8 := Lib.hid (show IsB (zs.drop 32) from fun x hx => HBZ x (List.mem_of_mem_drop hx))
                      have l0 := wd_lt zs
                      have l1 := wd_lt (zs.drop 8)
                      have l2 := wd_lt (zs.drop 16)
                      have l3 := wd_lt (zs.drop 24)
                      have kW := Lib.hid (fun e => vl_32 (xs := zs) (by omega) e)
                      clear T1 T1' e1 T2 T2' e2 T3 T3' e3 S8 SZ HBZ
                      generalize wd zs = P0 at *
                      generalize wd (zs.drop 8) = P1 at *
                      generalize wd (zs.drop 16) = P2 at *
                      generalize wd (zs.drop 24) = P3 at *
                      have ho1 : bits .or .u64 (P0 : Int) (P1 : Int) = ((P0 ||| P1 : Nat) : Int) := u64_or_nat P0 P1 l0 l1
                      have ho2 : bits .or .u64 (P2 : Int) (P3 : Int) = ((P2 ||| P3 : Nat) : Int) := u64_or_nat P2 P3 l2 l3
                      have lo1 : P0 ||| P1 < 18446744073709551616 := Nat.or_lt_two_pow (n := 64) l0 l1
                      have lo2 : P2 ||| P3 < 18446744073709551616 := Nat.or_lt_two_pow (n := 64) l2 l3
                      have ho3 : bits .or .u64 ((P0 ||| P1 : Nat) : Int) ((P2 ||| P3 : Nat) : Int) = (((P0 ||| P1) ||| (P2 ||| P3) : Nat) : Int) := u64_or_nat _ _ lo1 lo2
                      have lo3 : (P0 ||| P1) ||| (P2 ||| P3) < 18446744073709551616 := Nat.or_lt_two_pow (n := 64) lo1 lo2
                      have hand3 : bits .and .u64 (((P0 ||| P1) ||| (P2 ||| P3) : Nat) : Int) 9259542123273814144 = ((((P0 ||| P1) ||| (P2 ||| P3)) &&& 9259542123273814144 : Nat) : Int) := u64_and_nat _ 9259542123273814144 lo3 (by omega)
                      obtain ⟨R1, hR1⟩ : ∃ R1, P0 ||| P1 = R1 := ⟨_, rfl⟩
                      obtain ⟨R2, hR2⟩ : ∃ R2, P2 ||| P3 = R2 := ⟨_, rfl⟩
                      rw [hR1, hR2] at ho3 hand3 kW
                      rw [hR1] at ho1
                      rw [hR2] at ho2
                      obtain ⟨R3, hR3⟩ : ∃ R3, R1 ||| R2 = R3 := ⟨_, rfl⟩
                      rw [hR3] at ho3 hand3 kW
                      obtain ⟨Z3, hZ3⟩ : ∃ Z3, R3 &&& 9259542123273814144 = Z3 := ⟨_, rfl⟩
                      rw [hZ3] at hand3 kW
                      clear l0 l1 l2 l3 lo1 lo2 lo3 hR1 hR2 hR3 hZ3
                      by_cases hz3 : Z3 = 0
                      · have hz3b : ((Z3 : Int) == 0) = true := by simp [hz3]
                        have V8 := Lib.hid (show vl (zs.drop 32) = ANS by rw [kW.out hz3]; exact VZ.out)
                        clear kW
                        go_wp2_with fail
                        go_quiet (first | (go_at_call 39; with_reducible exact Calls.quiet_of (CA0.out _)) | (go_at_call 39; with_reducible exact Calls.quiet_of (CA1.out _)) | (go_at_call 39; with_reducible exact Calls.quiet_of (CA2.out _)) | (go_at_call 39; exact Calls.quiet_of (CA3.out _)))
                        have FD : Fr nothing wr (wr.drewN nq) := (Fr.refl _ wr).drewN nq
                        have hb3 := Bl.trans hbx (Bl.of_fr FD hbx.size (fun k h => False.elim h))
                        have S9 := HS8.out.fr FD (fun _ _ _ h => h)
                        generalize wr.drewN nq = wv at *
                        clear CA0 CA1 CA2 CA3 ho1 ho2 ho3 hand3 hz3b hz3 HS8 FD hbx
                        go_upto_region 11 with fail
                        go_wp2
                        go_roundg g3
                        case measure => have := HL8.out; omega
                        case rel => exact ⟨hb3, zs.drop 32, _, _, by rw [HSB.out]; rfl, S9, HB8.out, V8, by have := HL8.out; omega, by have := HL8.out; omega⟩
                      · have hz3b : ((Z3 : Int) == 0) = false := by simp; omega
                        go_wp2_with fail
                        go_quiet (first | (go_at_call 39; with_reducible exact Calls.quiet_of (CA0.out _)) | (go_at_call 39; with_reducible exact Calls.quiet_of (CA1.out _)) | (go_at_call 39; with_reducible exact Calls.quiet_of (CA2.out _)) | (go_at_call 39; exact Calls.quiet_of (CA3.out _)))
                        have FD : Fr nothing wr (wr.drewN nq) := (Fr.refl _ wr).drewN nq
                        have hb3 := Bl.trans hbx (Bl.of_fr FD hbx.size (fun k h => False.elim h))
                        have S9 := HSZ.out.fr FD (fun _ _ _ h => h)
                        generalize wr.drewN nq = wv at *
                        clear CA0 CA1 CA2 CA3 ho1 ho2 ho3 hand3 hz3b hz3 HS8 FD hbx kW
                        go_wp2
                        go_roundg g'
                        case measure => have := HLT.out; have := HL5.out; omega
                        case rel => exact ⟨hb3, zs, _, _, rfl, S9, HBZ'.out, VZ, by have := HLT.out; have := HL5.out; omega⟩
                    · have c32z : ¬ (32 : Int) < (zs.length : Int) := by omega
                      have c32b : decide ((32 : Int) < (zs.length : Int)) = false := decide_eq_false c32z
                      have HSZ := Lib.hid SZ
                      have HBZ' := Lib.hid HBZ
                      clear SZ HBZ
                      go_wp2_with fail
                      go_quiet (fail)
                      have FD : Fr nothing wr (wr.drewN nq) := (Fr.refl _ wr).drewN nq
                      have hb3 := Bl.trans hbx (Bl.of_fr FD hbx.size (fun k h => False.elim h))
                      have S9 := HSZ.out.fr FD (fun _ _ _ h => h)
                      generalize wr.drewN nq = wv at *
                      clear FD hbx
                      go_wp2
                      go_roundg g'
                      case measure => have := HLT.out; have := HL5.out; omega
                      case rel => exact ⟨hb3, zs, _, _, rfl, S9, HBZ'.out, VZ, by have := HLT.out; have := HL5.out; omega⟩
                · have hz2b : ((Z2 : Int) == 0) = false := by simp; omega
                  go_quiet (first | (go_at_call 39; with_reducible exact Calls.quiet_of (CW2.out _)) | (go_at_call 39; exact Calls.quiet_of (CW3.out _)))
                  have FD : Fr nothing wq (wq.drewN nq) := (Fr.refl _ wq).drewN nq
                  have hb2 := Bl.trans hb1 (Bl.of_fr FD hb1.size (fun k h => False.elim h))
                  have S6 := HS3.out.fr FD (fun _ _ _ h => h)
                  generalize wq.drewN nq = wq2 at *
                  clear CW2 CW3 hor hand hz2b hz2 HS5 FD hb1 kW
                  go_wp2
                  go_roundg g'
                  case measure => have := HLT.out; omega
                  case rel => exact ⟨hb2, us, _, _, rfl, S6, HB2.out, V2, by have := HLT.out; omega⟩
              · have c16z : ¬ (16 : Int) < (us.length : Int) := by omega
                go_quiet (fail)
                have FD : Fr nothing wq (wq.drewN nq) := (Fr.refl _ wq).drewN nq
                have hb2 := Bl.trans hb1 (Bl.of_fr FD hb1.size (fun k h => False.elim h))
                have S6 := HS3.out.fr FD (fun _ _ _ h => h)
                generalize wq.drewN nq = wq2 at *
                clear FD hb1
                go_wp2
                go_roundg g'
                case measure => have := HLT.out; omega
                case rel => exact ⟨hb2, us, _, _, rfl, S6, HB2.out, V2, by have := HLT.out; omega⟩
            · have hzb : ((Z : Int) == 0) = false := by simp; omega
              clear kW
              go_wp2_with fail
              refine CW.out.mono ?_
              rintro e W1 ⟨rfl, k1, rfl⟩
              have FD : Fr nothing wr (wr.drewN k1) := (Fr.refl _ wr).drewN k1
              have hb1 := Bl.trans hbw (Bl.of_fr FD hbw.size (fun k h => False.elim h))
              have S3 := HS1.out.fr FD (fun _ _ _ h => h)
              clear FD CW hz hbw
              generalize wr.drewN k1 = wq at *
              go_wp2
              go_roundg g'
              case measure => have := HLT.out; omega
              case rel => exact ⟨hb1, ts, _, _, rfl, S3, HB1.out, V1, by have := HLT.out; omega⟩
          · have c8z : ¬ (8 : Int) < (ts.length : Int) := by omega
            go_wp2
            go_roundg g'
            case measure => have := HLT.out; omega
            case rel => exact ⟨hbw, ts, _, _, rfl, HS1.out, HB1.out, V1, by have := HLT.out; omega⟩
      · as_aux_lemma =>
          have hd : decide (b0 < 128) = false := decide_eq_false hasc
          obtain ⟨N0, rfl⟩ : ∃ N0 : Nat, b0 = N0 := ⟨b0.toNat, by omega⟩
          have hTr : Tabs wr := hT.below hbw
          have hN : N0 < 256 := by omega
          have hlead := validD_lead (u8s ys) (fun e => by have : (u8s ys).length = ys.length := by simp [u8s]
                                                          rw [e] at this; simp at this; omega) (by have := HU0.out; omega)
          have ht0 : wr.cell? ⟨0, N0, none⟩ = some (.int .u8 (firstT N0)) := hTr.1 N0 hN
          have hXlt : firstT N0 < 256 := by rcases firstT_cases N0 with h | h | h | h | h | h | h | h | h <;> omega
          obtain ⟨T, hX⟩ : ∃ T, firstT N0 = T := ⟨_, rfl⟩
          have HLEAD := Lib.hid hlead
          rw [hX] at ht0 hXlt
          have ha0 : wr.cell? ⟨1, T / 16 * 2, none⟩ = some (.int .u8 (accLo (T / 16))) := by rw [Nat.mul_comm]; exact (hTr.2 (T / 16) (by omega)).1
          have ha1 : wr.cell? ⟨1, T / 16 * 2 + 1, none⟩ = some (.int .u8 (accHi (T / 16))) := by rw [Nat.mul_comm]; exact (hTr.2 (T / 16) (by omega)).2
          have h7 := and7 ⟨T, hXlt⟩
          simp only at h7
          have HXX := Lib.hid hX
          clear hlead hX hTr
          obtain ⟨LO, hLO⟩ : ∃ LO, accLo (T / 16) = LO := ⟨_, rfl⟩
          obtain ⟨HI, hHI⟩ : ∃ HI, accHi (T / 16) = HI := ⟨_, rfl⟩
          have HLL := Lib.hid (show vl ys = match checkN ys.length ((u8s ys).getD 1 0).toNat ((u8s ys).getD 2 0).toNat ((u8s ys).getD 3 0).toNat (T % 8) LO HI with | none => false | some k => vl (ys.drop k) by
            have h := HLEAD.out
            have e0 : ((u8s ys).getD 0 0).toNat = N0 := by have := HU0.out; omega
            have el : (u8s ys).length = ys.length := by simp [u8s]
            rw [e0, HXX.out, hLO, hHI, el] at h
            unfold vl
            rw [h]
            split <;> rename_i h1
            · rw [h1]
            · rw [h1]; simp only [u8s_drop])
          rw [hLO] at ha0
          rw [hHI] at ha1
          have HYU := Lib.hid (fun i (hi : i < ys.length) => u8s_at hB hi)
          clear hLO hHI HLEAD HXX
          go_upto_region 17 with fail
          have bA := Blk.new wr #[.int .u8 (LO : Nat), .int .u8 (HI : Nat)] 83
          have FA : Fr nothing wr (wr.alloc (.cells #[.int .u8 (LO : Nat), .int .u8 (HI : Nat)] 83)) := (Fr.refl _ wr).alloc _
          generalize wr.alloc (.cells #[.int .u8 (LO : Nat), .int .u8 (HI : Nat)] 83) = wa at *
          generalize wr.heap.size = gA at *
          have hbA := Bl.trans hbw (Bl.of_fr FA hbw.size (fun k h => False.elim h))
          have HSA := Lib.hid (HX.out.fr FA (fun _ _ _ h => h))
          have cA0 := bA.cell 0
          have cA1 := bA.cell 1
          simp at cA0 cA1
          have key : ∀ j, j < ys.length → wa.cell? (ad.add j) = some (.int .u8 ((((u8s ys).getD j 0).toNat : Nat) : Int)) := fun j hj => by
            obtain ⟨A', c', e, -, -, -, q4⟩ := HSA.out
            injection e with e1 e2 e3
            subst e1
            obtain ⟨ad', e5, h⟩ := q4.at_ j hj
            injection e5 with e5
            subst e5
            rw [h, HYU.out j hj]
          have HKEY := Lib.hid key
          obtain ⟨Y1, hY1⟩ : ∃ Y, ((u8s ys).getD 1 0).toNat = Y := ⟨_, rfl⟩
          obtain ⟨Y2, hY2⟩ : ∃ Y, ((u8s ys).getD 2 0).toNat = Y := ⟨_, rfl⟩
          obtain ⟨Y3, hY3⟩ : ∃ Y, ((u8s ys).getD 3 0).toNat = Y := ⟨_, rfl⟩
          rw [hY1, hY2, hY3] at HLL
          have HY := Lib.hid (And.intro hY1 (And.intro hY2 hY3))
          clear hY1 hY2 hY3 key bA FA ha0 ha1 ht0 h7 hc hd HU0 HYU hbw hasc HX
          by_cases s2 : T % 8 = 2
          · skip
            have hs : ((T : Int) % 8 == 2) = true := by rw [beq_iff_eq]; omega
            have HL := Lib.hid (show vl ys = if ys.length < 2 ∨ Y1 < LO ∨ HI < Y1 then false else vl (ys.drop 2) by
              refine HLL.out.trans ?_
              rw [s2]
              exact chk2 (fun k => vl (ys.drop k)))
            by_cases q0 : ys.length < 2
            · have q0z : (ys.length : Int) < 2 := by omega
              have HN := Lib.hid (show ANS = false by rw [← HV.out, HL.out, if_pos (by omega)])
              clear HL HLL
              go_upto_region 18 with fail
              go_quiet (fail)
              have hb3 := Bl.trans hbA (Bl.of_fr (S := nothing) ((Fr.refl _ wa).drewN nq) hbA.size (fun k h => False.elim h))
              go_wp2
              go_ret
              exact ⟨by rw [HN.out]; rfl, hb3⟩
            · have q0z : ¬ (ys.length : Int) < 2 := by omega
              have q0b : decide ((ys.length : Int) < 2) = false := decide_eq_false q0z
              have i1 : (1 : Int) < (ys.length : Int) := by omega
              have cY1 : wa.cell? ⟨ad.block, ad.off + 1, none⟩ = some (.int .u8 (Y1 : Int)) := by have h := HKEY.out 1 (by omega); rw [HY.out.1] at h; exact h
              by_cases q1 : Y1 < LO
              · have q1z : (Y1 : Int) < LO := by omega
                have HN := Lib.hid (show ANS = false by rw [← HV.out, HL.out, if_pos (by omega)])
                clear HL HLL
                go_upto_region 18 with fail
                go_quiet (fail)
                have hb3 := Bl.trans hbA (Bl.of_fr (S := nothing) ((Fr.refl _ wa).drewN nq) hbA.size (fun k h => False.elim h))
                go_wp2
                go_ret
                exact ⟨by rw [HN.out]; rfl, hb3⟩
              · have q1z : ¬ (Y1 : Int) < LO := by omega
                have q1b : decide ((Y1 : Int) < LO) = false := decide_eq_false q1z
                by_cases q2 : HI < Y1
                · have q2z : (HI : Int) < Y1 := by omega
                  have HN := Lib.hid (show ANS = false by rw [← HV.out, HL.out, if_pos (by omega)])
                  clear HL HLL
                  go_upto_region 18 with fail
                  go_quiet (fail)
                  have hb3 := Bl.trans hbA (Bl.of_fr (S := nothing) ((Fr.refl _ wa).drewN nq) hbA.size (fun k h => False.elim h))
                  go_wp2
                  go_ret
                  exact ⟨by rw [HN.out]; rfl, hb3⟩
                · have q2z : ¬ (HI : Int) < Y1 := by omega
                  have q2b : decide ((HI : Int) < Y1) = false := decide_eq_false q2z
                  have V := Lib.hid (show vl (ys.drop 2) = ANS by rw [← HV.out, HL.out, if_neg (by omega)])
                  have S := sub_tail HSA.out 2 (by omega)
                  obtain ⟨A1, hA1⟩ : ∃ A1, (if c = 2 then some ad else some ({ block := ad.block, off := ad.off + 2 } : Addr)) = A1 := ⟨_, rfl⟩
                  have S' : SlB wa lo hi (.slice A1 (ys.drop 2).length (c - 2)) (ys.drop 2) := by rw [← hA1]; exact S
                  have HS' := Lib.hid S'
                  have HSB := Lib.hid (show ys.length - 2 = (ys.drop 2).length by simp)
                  have HLD := Lib.hid (show (ys.drop 2).length + 2 = ys.length by simp; omega)
                  have HBD := Lib.hid (show IsB (ys.drop 2) from fun x hx => hB x (List.mem_of_mem_drop hx))
                  have hkl : (2 : Int) ≤ (ys.length : Int) := by omega
                  clear S S' HL HLL
                  go_upto_region 18 with fail
                  go_quiet (fail)
                  have FD : Fr nothing wa (wa.drewN nq) := (Fr.refl _ wa).drewN nq
                  have hb3 := Bl.trans hbA (Bl.of_fr FD hbA.size (fun k h => False.elim h))
                  go_wp2
                  go_roundg g'
                  case measure => have := HLD.out; omega
                  case rel => exact ⟨hb3, ys.drop 2, _, _, by (rw [HSB.out]; try rfl), HS'.out.fr FD (fun _ _ _ h => h), HBD.out, V, by have := HLD.out; omega⟩
          · have n2 : ((T : Int) % 8 == 2) = false := beq_eq_false_iff_ne.2 (by omega)
            by_cases s3 : T % 8 = 3
            · skip
              have hs : ((T : Int) % 8 == 3) = true := by rw [beq_iff_eq]; omega
              have HL := Lib.hid (show vl ys = if ys.length < 3 ∨ Y1 < LO ∨ HI < Y1 ∨ Y2 < 128 ∨ 191 < Y2 then false else vl (ys.drop 3) by
                refine HLL.out.trans ?_
                rw [s3]
                exact chk3 (fun k => vl (ys.drop k)))
              by_cases q0 : ys.length < 3
              · have q0z : (ys.length : Int) < 3 := by omega
                have HN := Lib.hid (show ANS = false by rw [← HV.out, HL.out, if_pos (by omega)])
                clear HL HLL
                go_upto_region 22 with fail
                go_quiet (fail)
                have hb3 := Bl.trans hbA (Bl.of_fr (S := nothing) ((Fr.refl _ wa).drewN nq) hbA.size (fun k h => False.elim h))
                go_wp2
                go_ret
                exact ⟨by rw [HN.out]; rfl, hb3⟩
              · have q0z : ¬ (ys.length : Int) < 3 := by omega
                have q0b : decide ((ys.length : Int) < 3) = false := decide_eq_false q0z
                have i1 : (1 : Int) < (ys.length : Int) := by omega
                have cY1 : wa.cell? ⟨ad.block, ad.off + 1, none⟩ = some (.int .u8 (Y1 : Int)) := by have h := HKEY.out 1 (by omega); rw [HY.out.1] at h; exact h
                have i2 : (2 : Int) < (ys.length : Int) := by omega
                have cY2 : wa.cell? ⟨ad.block, ad.off + 2, none⟩ = some (.int .u8 (Y2 : Int)) := by have h := HKEY.out 2 (by omega); rw [HY.out.2.1] at h; exact h
                by_cases q1 : Y1 < LO
                · have q1z : (Y1 : Int) < LO := by omega
                  have HN := Lib.hid (show ANS = false by rw [← HV.out, HL.out, if_pos (by omega)])
                  clear HL HLL
                  go_upto_region 22 with fail
                  go_quiet (fail)
                  have hb3 := Bl.trans hbA (Bl.of_fr (S := nothing) ((Fr.refl _ wa).drewN nq) hbA.size (fun k h => False.elim h))
                  go_wp2
                  go_ret
                  exact ⟨by rw [HN.out]; rfl, hb3⟩
                · have q1z : ¬ (Y1 : Int) < LO := by omega
                  have q1b : decide ((Y1 : Int) < LO) = false := decide_eq_false q1z
                  by_cases q2 : HI < Y1
                  · have q2z : (HI : Int) < Y1 := by omega
                    have HN := Lib.hid (show ANS = false by rw [← HV.out, HL.out, if_pos (by omega)])
                    clear HL HLL
                    go_upto_region 22 with fail
                    go_quiet (fail)
                    have hb3 := Bl.trans hbA (Bl.of_fr (S := nothing) ((Fr.refl _ wa).drewN nq) hbA.size (fun k h => False.elim h))
                    go_wp2
                    go_ret
                    exact ⟨by rw [HN.out]; rfl, hb3⟩
                  · have q2z : ¬ (HI : Int) < Y1 := by omega
                    have q2b : decide ((HI : Int) < Y1) = false := decide_eq_false q2z
                    by_cases q3 : Y2 < 128
                    · have q3z : (Y2 : Int) < 128 := by omega
                      have HN := Lib.hid (show ANS = false by rw [← HV.out, HL.out, if_pos (by omega)])
                      clear HL HLL
                      go_upto_region 22 with fail
                      go_quiet (fail)
                      have hb3 := Bl.trans hbA (Bl.of_fr (S := nothing) ((Fr.refl _ wa).drewN nq) hbA.size (fun k h => False.elim h))
                      go_wp2
                      go_ret
                      exact ⟨by rw [HN.out]; rfl, hb3⟩
                    · have q3z : ¬ (Y2 : Int) < 128 := by omega
                      have q3b : decide ((Y2 : Int) < 128) = false := decide_eq_false q3z
                      by_cases q4 : 191 < Y2
                      · have q4z : (191 : Int) < Y2 := by omega
                        have HN := Lib.hid (show ANS = false by rw [← HV.out, HL.out, if_pos (by omega)])
                        clear HL HLL
                        go_upto_region 22 with fail
                        go_quiet (fail)
                        have hb3 := Bl.trans hbA (Bl.of_fr (S := nothing) ((Fr.refl _ wa).drewN nq) hbA.size (fun k h => False.elim h))
                        go_wp2
                        go_ret
                        exact ⟨by rw [HN.out]; rfl, hb3⟩
                      · have q4z : ¬ (191 : Int) < Y2 := by omega
                        have q4b : decide ((191 : Int) < Y2) = false := decide_eq_false q4z
                        have V := Lib.hid (show vl (ys.drop 3) = ANS by rw [← HV.out, HL.out, if_neg (by omega)])
                        have S := sub_tail HSA.out 3 (by omega)
                        obtain ⟨A1, hA1⟩ : ∃ A1, (if c = 3 then some ad else some ({ block := ad.block, off := ad.off + 3 } : Addr)) = A1 := ⟨_, rfl⟩
                        have S' : SlB wa lo hi (.slice A1 (ys.drop 3).length (c - 3)) (ys.drop 3) := by rw [← hA1]; exact S
                        have HS' := Lib.hid S'
                        have HSB := Lib.hid (show ys.length - 3 = (ys.drop 3).length by simp)
                        have HLD := Lib.hid (show (ys.drop 3).length + 3 = ys.length by simp; omega)
                        have HBD := Lib.hid (show IsB (ys.drop 3) from fun x hx => hB x (List.mem_of_mem_drop hx))
                        have hkl : (3 : Int) ≤ (ys.length : Int) := by omega
                        clear S S' HL HLL
                        go_upto_region 22 with fail
                        go_quiet (fail)
                        have FD : Fr nothing wa (wa.drewN nq) := (Fr.refl _ wa).drewN nq
                        have hb3 := Bl.trans hbA (Bl.of_fr FD hbA.size (fun k h => False.elim h))
                        go_wp2
                        go_roundg g'
                        case measure => have := HLD.out; omega
                        case rel => exact ⟨hb3, ys.drop 3, _, _, by (rw [HSB.out]; try rfl), HS'.out.fr FD (fun _ _ _ h => h), HBD.out, V, by have := HLD.out; omega⟩
            · have n3 : ((T : Int) % 8 == 3) = false := beq_eq_false_iff_ne.2 (by omega)
              by_cases s4 : T % 8 = 4
              · skip
                have hs : ((T : Int) % 8 == 4) = true := by rw [beq_iff_eq]; omega
                have HL := Lib.hid (show vl ys = if ys.length < 4 ∨ Y1 < LO ∨ HI < Y1 ∨ Y2 < 128 ∨ 191 < Y2 ∨ Y3 < 128 ∨ 191 < Y3 then false else vl (ys.drop 4) by
                  refine HLL.out.trans ?_
                  rw [s4]
                  exact chk4 (fun k => vl (ys.drop k)))
                by_cases q0 : ys.length < 4
                · have q0z : (ys.length : Int) < 4 := by omega
                  have HN := Lib.hid (show ANS = false by rw [← HV.out, HL.out, if_pos (by omega)])
                  clear HL HLL
                  go_upto_region 26 with fail
                  go_quiet (fail)
                  have hb3 := Bl.trans hbA (Bl.of_fr (S := nothing) ((Fr.refl _ wa).drewN nq) hbA.size (fun k h => False.elim h))
                  go_wp2
                  go_ret
                  exact ⟨by rw [HN.out]; rfl, hb3⟩
                · have q0z : ¬ (ys.length : Int) < 4 := by omega
                  have q0b : decide ((ys.length : Int) < 4) = false := decide_eq_false q0z
                  have i1 : (1 : Int) < (ys.length : Int) := by omega
                  have cY1 : wa.cell? ⟨ad.block, ad.off + 1, none⟩ = some (.int .u8 (Y1 : Int)) := by have h := HKEY.out 1 (by omega); rw [HY.out.1] at h; exact h
                  have i2 : (2 : Int) < (ys.length : Int) := by omega
                  have cY2 : wa.cell? ⟨ad.block, ad.off + 2, none⟩ = some (.int .u8 (Y2 : Int)) := by have h := HKEY.out 2 (by omega); rw [HY.out.2.1] at h; exact h
                  have i3 : (3 : Int) < (ys.length : Int) := by omega
                  have cY3 : wa.cell? ⟨ad.block, ad.off + 3, none⟩ = some (.int .u8 (Y3 : Int)) := by have h := HKEY.out 3 (by omega); rw [HY.out.2.2] at h; exact h
                  by_cases q1 : Y1 < LO
                  · have q1z : (Y1 : Int) < LO := by omega
                    have HN := Lib.hid (show ANS = false by rw [← HV.out, HL.out, if_pos (by omega)])
                    clear HL HLL
                    go_upto_region 26 with fail
                    go_quiet (fail)
                    have hb3 := Bl.trans hbA (Bl.of_fr (S := nothing) ((Fr.refl _ wa).drewN nq) hbA.size (fun k h => False.elim h))
                    go_wp2
                    go_ret
                    exact ⟨by rw [HN.out]; rfl, hb3⟩
                  · have q1z : ¬ (Y1 : Int) < LO := by omega
                    have q1b : decide ((Y1 : Int) < LO) = false := decide_eq_false q1z
                    by_cases q2 : HI < Y1
                    · have q2z : (HI : Int) < Y1 := by omega
                      have HN := Lib.hid (show ANS = false by rw [← HV.out, HL.out, if_pos (by omega)])
                      clear HL HLL
                      go_upto_region 26 with fail
                      go_quiet (fail)
                      have hb3 := Bl.trans hbA (Bl.of_fr (S := nothing) ((Fr.refl _ wa).drewN nq) hbA.size (fun k h => False.elim h))
                      go_wp2
                      go_ret
                      exact ⟨by rw [HN.out]; rfl, hb3⟩
                    · have q2z : ¬ (HI : Int) < Y1 := by omega
                      have q2b : decide ((HI : Int) < Y1) = false := decide_eq_false q2z
                      by_cases q3 : Y2 < 128
                      · have q3z : (Y2 : Int) < 128 := by omega
                        have HN := Lib.hid (show ANS = false by rw [← HV.out, HL.out, if_pos (by omega)])
                        clear HL HLL
                        go_upto_region 26 with fail
                        go_quiet (fail)
                        have hb3 := Bl.trans hbA (Bl.of_fr (S := nothing) ((Fr.refl _ wa).drewN nq) hbA.size (fun k h => False.elim h))
                        go_wp2
                        go_ret
                        exact ⟨by rw [HN.out]; rfl, hb3⟩
                      · have q3z : ¬ (Y2 : Int) < 128 := by omega
                        have q3b : decide ((Y2 : Int) < 128) = false := decide_eq_false q3z
                        by_cases q4 : 191 < Y2
                        · have q4z : (191 : Int) < Y2 := by omega
                          have HN := Lib.hid (show ANS = false by rw [← HV.out, HL.out, if_pos (by omega)])
                          clear HL HLL
                          go_upto_region 26 with fail
                          go_quiet (fail)
                          have hb3 := Bl.trans hbA (Bl.of_fr (S := nothing) ((Fr.refl _ wa).drewN nq) hbA.size (fun k h => False.elim h))
                          go_wp2
                          go_ret
                          exact ⟨by rw [HN.out]; rfl, hb3⟩
                        · have q4z : ¬ (191 : Int) < Y2 := by omega
                          have q4b : decide ((191 : Int) < Y2) = false := decide_eq_false q4z
                          by_cases q5 : Y3 < 128
                          · have q5z : (Y3 : Int) < 128 := by omega
                            have HN := Lib.hid (show ANS = false by rw [← HV.out, HL.out, if_pos (by omega)])
                            clear HL HLL
                            go_upto_region 26 with fail
                            go_quiet (fail)
                            have hb3 := Bl.trans hbA (Bl.of_fr (S := nothing) ((Fr.refl _ wa).drewN nq) hbA.size (fun k h => False.elim h))
                            go_wp2
                            go_ret
                            exact ⟨by rw [HN.out]; rfl, hb3⟩
                          · have q5z : ¬ (Y3 : Int) < 128 := by omega
                            have q5b : decide ((Y3 : Int) < 128) = false := decide_eq_false q5z
                            by_cases q6 : 191 < Y3
                            · have q6z : (191 : Int) < Y3 := by omega
                              have HN := Lib.hid (show ANS = false by rw [← HV.out, HL.out, if_pos (by omega)])
                              clear HL HLL
                              go_upto_region 26 with fail
                              go_quiet (fail)
                              have hb3 := Bl.trans hbA (Bl.of_fr (S := nothing) ((Fr.refl _ wa).drewN nq) hbA.size (fun k h => False.elim h))
                              go_wp2
                              go_ret
                              exact ⟨by rw [HN.out]; rfl, hb3⟩
                            · have q6z : ¬ (191 : Int) < Y3 := by omega
                              have q6b : decide ((191 : Int) < Y3) = false := decide_eq_false q6z
                              have V := Lib.hid (show vl (ys.drop 4) = ANS by rw [← HV.out, HL.out, if_neg (by omega)])
                              have S := sub_tail HSA.out 4 (by omega)
                              obtain ⟨A1, hA1⟩ : ∃ A1, (if c = 4 then some ad else some ({ block := ad.block, off := ad.off + 4 } : Addr)) = A1 := ⟨_, rfl⟩
                              have S' : SlB wa lo hi (.slice A1 (ys.drop 4).length (c - 4)) (ys.drop 4) := by rw [← hA1]; exact S
                              have HS' := Lib.hid S'
                              have HSB := Lib.hid (show ys.length - 4 = (ys.drop 4).length by simp)
                              have HLD := Lib.hid (show (ys.drop 4).length + 4 = ys.length by simp; omega)
                              have HBD := Lib.hid (show IsB (ys.drop 4) from fun x hx => hB x (List.mem_of_mem_drop hx))
                              have hkl : (4 : Int) ≤ (ys.length : Int) := by omega
                              clear S S' HL HLL
                              go_upto_region 26 with fail
                              go_quiet (fail)
                              have FD : Fr nothing wa (wa.drewN nq) := (Fr.refl _ wa).drewN nq
                              have hb3 := Bl.trans hbA (Bl.of_fr FD hbA.size (fun k h => False.elim h))
                              go_wp2
                              go_roundg g'
                              case measure => have := HLD.out; omega
                              case rel => exact ⟨hb3, ys.drop 4, _, _, by (rw [HSB.out]; try rfl), HS'.out.fr FD (fun _ _ _ h => h), HBD.out, V, by have := HLD.out; omega⟩
              · have n4 : ((T : Int) % 8 == 4) = false := beq_eq_false_iff_ne.2 (by omega)
                have HN := Lib.hid (show ANS = false by
                  rw [← HV.out]
                  exact HLL.out.trans (chk0 (fun k => vl (ys.drop k)) s2 s3 s4))
                clear HLL
                go_wp2
                go_ret
                exact ⟨by rw [HN.out]; rfl, hbA⟩
    · have hnz : ¬ (0 : Int) < (ys.length : Int) := by omega
      have HF := Lib.hid (show ANS = true by
        rw [← HV.out]
        have : ys = [] := List.eq_nil_of_length_eq_zero (by omega)
        rw [this]
        rfl)
      clear h0
      go_wp2
      go_ret
      exact ⟨by rw [HF.out]; rfl, hbw⟩
end Go.Proofs.YtdbndinnakkloaaDoor.Dcp
