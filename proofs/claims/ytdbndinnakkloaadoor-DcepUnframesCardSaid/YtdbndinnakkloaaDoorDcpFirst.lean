/- slices.Equal of bytes; grants; the law's first answers. Conditions: utf8's tables read as laid. -/
import Derived.Test.YtdbndinnakkloaaDoorDcpGet
import Derived.BigQuiet
import Derived.Deep.QuietTactic
namespace Go.Proofs.YtdbndinnakkloaaDoor.Dcp
open Go.RowKit Go.Proofs.YtdbndinnakkloaaDoor.Mem Go.Proofs.YtdbndinnakkloaaDoor.Octet
set_option linter.unusedVariables false
set_option linter.unusedSimpArgs false
theorem take_eq {xs ys : List Int} {j : Nat} (h1 : j < xs.length) (h2 : j < ys.length) (e : xs.take j = ys.take j) (e2 : xs[j] = ys[j]) : xs.take (j + 1) = ys.take (j + 1) := by
  rw [List.take_add_one, List.take_add_one, e, List.getElem?_eq_getElem h1, List.getElem?_eq_getElem h2, e2]
set_option maxHeartbeats 2000000 in
set_option maxRecDepth 100000 in
theorem eq_calls (lo hi lo' hi' : Nat) (v u : Value) (xs ys : List Int) (w : World) (h : SlB w lo hi v xs) (h' : SlB w lo' hi' u ys) (hl : xs.length ≤ 9223372036854775806) :
    Calls Tryd.prog 28 #[v, u] w fun e w' => e = .returned (.bool (decide (xs = ys))) ∧ Below w.heap.size w w' := by
  obtain ⟨A, c, rfl, h1, h2, h3, h4⟩ := h
  obtain ⟨A', c', rfl, g1, g2, g3, g4⟩ := h'
  by_cases hxy : xs.length = ys.length
  · have hne : ((xs.length : Int) != ys.length) = false := by simp [hxy]
    obtain ⟨n, hn⟩ : ∃ n, xs.length = n := ⟨_, rfl⟩
    have hn' : ys.length = n := by omega
    have HN := Lib.hid hn
    have HN' := Lib.hid hn'
    have HD := Lib.hid (show (decide (xs = ys)) = decide (xs.take n = ys.take n) by rw [List.take_of_length_le (by omega), List.take_of_length_le (by omega)])
    rw [hn, hn'] at hne
    rw [hn, hn']
    clear hxy hn hn' h3 g3
    generalize decide (xs = ys) = D at HD ⊢
    go_enter Tryd.func28, Tryd.ntmps28
    go_wp2_with fail
    go_loopw [13] (fun i wr => ∃ j : Nat, j ≤ n ∧ i = .int .i64 j ∧ xs.take j = ys.take j ∧ RdB wr lo hi A xs ∧ RdB wr lo' hi' A' ys ∧ Below w.heap.size w wr) (fun i _ => n - (intOf i).toNat)
    case atStart => exact ⟨0, Nat.zero_le _, rfl, by simp, h4, g4, Below.refl _ _⟩
    case round =>
      clear h4 g4
      obtain ⟨j, hj, rfl, et, h4, g4, B⟩ := hrel
      by_cases hlt : j < n
      · have hjl : (j : Int) < n := by omega
        have hj0 : (0 : Int) ≤ j := by omega
        have hjx : j < xs.length := by rw [HN.out]; exact hlt
        have hjy : j < ys.length := by rw [HN'.out]; exact hlt
        obtain ⟨ad, rfl, k1⟩ := h4.at_ j hjx
        obtain ⟨ad', rfl, k2⟩ := g4.at_ j hjy
        have HT := Lib.hid et
        have HTE := Lib.hid (take_eq hjx hjy et)
        have HR1 := Lib.hid h4
        have HR2 := Lib.hid g4
        have HNE := Lib.hid (show xs[j] ≠ ys[j] → decide (xs.take n = ys.take n) = false from fun h => decide_eq_false (fun e => h (by
          have := congrArg (fun l : List Int => l[j]?) e
          simp [List.getElem?_take, hlt, hjx, hjy] at this
          exact this)))
        clear et h4 g4
        generalize xs[j] = x at *
        generalize ys[j] = y at *
        by_cases hxy : x = y
        · have hb : (x != y) = false := by simp [hxy]
          go_upto_region 6 with fail
          go_quiet (fail)
          go_wp2
          go_roundw
          case rel => exact ⟨j + 1, by omega, by go_num, HTE.out hxy, HR1.out.fr (S := nothing) ((Fr.refl _ _).drewN _) (fun _ _ _ h => h), HR2.out.fr (S := nothing) ((Fr.refl _ _).drewN _) (fun _ _ _ h => h), Bl.trans B (Bl.of_fr (S := nothing) ((Fr.refl _ _).drewN _) B.size (fun k h => False.elim h))⟩
          case measure => simp [intOf]; omega
        · have hb : (x != y) = true := by simp [hxy]
          go_upto_region 6 with fail
          go_quiet (fail)
          go_wp2
          go_ret
          exact ⟨by rw [HD.out, HNE.out hxy]; rfl, Bl.trans B (Bl.of_fr (S := nothing) ((Fr.refl _ _).drewN _) B.size (fun k h => False.elim h))⟩
      · obtain rfl : j = n := by omega
        have hjl : ¬ ((j : Nat) : Int) < j := by omega
        have HT := Lib.hid et
        clear et
        go_wp2
        go_ret
        exact ⟨by rw [HD.out, decide_eq_true HT.out]; rfl, B⟩
  · have hne : ((xs.length : Int) != ys.length) = true := by simp; omega
    have hd : decide (xs = ys) = false := decide_eq_false (fun e => hxy (by rw [e]))
    rw [hd]
    clear hxy hd h4 g4
    go_enter Tryd.func28, Tryd.ntmps28
    go_wp2
    go_ret
    exact ⟨rfl, Below.refl _ _⟩
set_option maxRecDepth 100000 in
theorem grant_calls (w : World) : Calls Tryd.prog 16 #[] w fun e w' => e = .returned (.slice (some ⟨w.heap.size, 0, none⟩) 1 1) ∧ w' = w.alloc (.cells #[.int .u8 2] 5) := by
  go_enter Tryd.func16, Tryd.ntmps16
  go_wp2
  go_ret
  exact ⟨rfl, rfl⟩
set_option maxHeartbeats 1000000 in
set_option maxRecDepth 100000 in
theorem granted_calls (lo hi : Nat) (v : Value) (xs : List Int) (w : World) (h : SlB w lo hi v xs) (hl : xs.length ≤ 9223372036854775806) :
    Calls Tryd.prog 10 #[v] w fun e w' => e = .returned (.bool (decide (xs = [2]))) ∧ Below w.heap.size w w' := by
  have B1 : Below w.heap.size w (w.alloc (.cells #[.int .u8 2] 5)) := (Below.refl _ w).alloc (Nat.le_refl _) _
  have X := SlB.fr (S := nothing) h ((Fr.refl _ w).alloc (.cells #[.int .u8 2] 5)) (fun _ _ _ h => h)
  have Y := lit_slb w #[.int .u8 2] (0, 0) [2] (by simp) (by simp [maxLen]) (by intro i hi; simp at hi; subst hi; rfl)
  have HC := Lib.hid (eq_calls _ _ _ _ _ _ xs [2] _ X Y hl)
  clear X Y
  go_enter Tryd.func10, Tryd.ntmps10
  go_wp2_with fail
  refine (grant_calls w).mono ?_
  rintro e w1 ⟨rfl, rfl⟩
  go_wp2_with fail
  refine HC.out.mono ?_
  rintro e w2 ⟨rfl, B2⟩
  go_wp2
  go_ret
  exact ⟨rfl, Bl.trans B1 (Bl.low B2 B1.size)⟩
set_option maxHeartbeats 1000000 in
set_option maxRecDepth 100000 in
theorem uvalid_nil (w : World) : Calls Tryd.prog 34 #[.slice none 0 0] w fun e w' => e = .returned (.bool true) ∧ w' = w := by
  go_enter Tryd.func34, Tryd.ntmps34
  go_wp2_with fail
  go_loopw [0] (fun v wr => v = .slice none 0 0 ∧ wr = w) (fun _ _ => 0)
  case atStart => exact ⟨rfl, rfl⟩
  case round =>
    obtain ⟨rfl, rfl⟩ := hrel
    go_wp2
    go_ret
    exact ⟨rfl, rfl⟩
set_option maxHeartbeats 1000000 in
set_option maxRecDepth 100000 in
theorem frame_nil (w : World) : Calls Tryd.prog 12 #[.int .i64 0, .slice none 0 0] w fun e w' => e = .returned (.tuple #[.int .u32 56, .slice (some ⟨w.heap.size, 0, none⟩) 1 1, .int .i64 0]) ∧ w' = w.alloc (.cells #[.int .u8 0] 5) := by
  go_enter Tryd.func12, Tryd.ntmps12
  go_wp2_with fail
  refine (uvalid_nil w).mono ?_
  rintro e w1 ⟨rfl, rfl⟩
  go_wp2
  go_ret3
  exact ⟨rfl, rfl⟩
theorem put_first : putE 1 3 ⟨#[97]⟩ ⟨#[]⟩ = 0 := by kernel_rfl
theorem bytes_first : obytes false 1 3 0 ⟨#[97]⟩ ⟨#[]⟩ = [3, 1, 0, 0, 0, 0, 0, 3, 0, 1, 0, 0, 97] := by kernel_rfl
theorem str_first : bstr [3, 1, 0, 0, 0, 0, 0, 3, 0, 1, 0, 0, 97] = ⟨#[3, 1, 0, 0, 0, 0, 0, 3, 0, 1, 0, 0, 97]⟩ := by kernel_rfl
theorem str_nought : bstr [0] = ⟨#[0]⟩ := by kernel_rfl
theorem gE_first : gE [3, 1, 0, 0, 0, 0, 0, 3, 0, 1, 0, 0, 97] = 0 := by kernel_rfl
theorem gV_first : gV [3, 1, 0, 0, 0, 0, 0, 3, 0, 1, 0, 0, 97] = #[.bool false, .int .i64 1, .int .u32 3, .int .u16 0, .string ⟨#[97]⟩, .string ⟨#[]⟩] := by kernel_rfl
theorem isb_first : IsB [3, 1, 0, 0, 0, 0, 0, 3, 0, 1, 0, 0, 97] := by
  intro x hx
  simp at hx
  omega
theorem slb_nil (w : World) : SlB w 0 w.heap.size (.slice none 0 0) [] := ⟨none, 0, rfl, Nat.le_refl _, Nat.zero_le _, fun _ => rfl, .inl rfl⟩
set_option maxHeartbeats 4000000 in
set_option maxRecDepth 100000 in
theorem first_calls (w : World) (hT : Tabs w) : Calls Tryd.prog 7 #[] w fun e w' => e = .returned (.bool true) ∧ Below w.heap.size w w' := by
  have hup := Tryd.underlying30
  have CP := Lib.hid (put_calls false 1 3 0 ⟨#[97]⟩ ⟨#[]⟩ w hT (by decide) (by decide))
  go_enter Tryd.func7, Tryd.ntmps7
  go_wp2_with fail
  refine CP.out.mono ?_
  rintro e w1 ⟨B1, h⟩
  clear CP
  rw [put_first, bytes_first] at h
  obtain ⟨-, A, c, rfl, o⟩ := h.resolve_left (fun h => h.1 rfl)
  clear h
  have T1 := hT.below B1
  have X := SlB.of_own o
  have CG := get_calls _ _ _ _ w1 T1 X (Nat.le_refl _) isb_first (by simp)
  rw [gE_first, gV_first] at CG
  have HCG := Lib.hid CG
  have HO := Lib.hid o
  clear CG o X
  go_wp2_with fail
  refine HCG.out.mono ?_
  rintro e w2 ⟨rfl, B2⟩
  have HO2 := Lib.hid (OwnB.fr HO.out (Fr.of_below (S := nothing) B2) (fun _ _ h => h))
  have HB2 := Lib.hid (Bl.trans B1 (Bl.low B2 B1.size))
  clear HCG HO B1 B2 T1
  go_upto_region 3 with fail
  have bO := Blk.new w2 #[.bool false, .int .i64 1, .int .u32 3, .int .u16 0, .string ⟨#[97]⟩, .string ⟨#[]⟩] 30
  have FO : Fr nothing w2 (w2.alloc (.cells #[.bool false, .int .i64 1, .int .u32 3, .int .u16 0, .string ⟨#[97]⟩, .string ⟨#[]⟩] 30)) := (Fr.refl _ w2).alloc _
  generalize w2.alloc (.cells #[.bool false, .int .i64 1, .int .u32 3, .int .u16 0, .string ⟨#[97]⟩, .string ⟨#[]⟩] 30) = w3 at *
  go_wp2_with fail
  refine (frame_nil _).mono ?_
  rintro e w4 ⟨rfl, hw4⟩
  have FZ : Fr nothing w3 w4 := by rw [hw4]; exact (Fr.refl _ w3).alloc _
  have SZ := lit_slb w3 #[.int .u8 0] (0, 0) [0] (by simp) (by simp [maxLen]) (by intro i hi; simp at hi; subst hi; rfl)
  rw [← hw4] at SZ
  have cz : (convert 22 9 (.slice (some ⟨w3.heap.size, 0, none⟩) 1 1)).run Tryd.prog w4 = .ok (.string (bstr [0])) w4 := slb_str SZ
  have F4 := FO.trans FZ (fun _ _ h => h)
  have c1 : (convert 22 9 (.slice A 13 c)).run Tryd.prog w4 = .ok (.string (bstr [3, 1, 0, 0, 0, 0, 0, 3, 0, 1, 0, 0, 97])) w4 := slb_str (SlB.of_own (OwnB.fr HO2.out F4 (fun _ _ h => h)))
  rw [str_nought] at cz
  rw [str_first] at c1
  have bO4 := Blk.fr bO FZ id
  have cO3 := bO4.cell 4
  simp at cO3
  have HB4 := Lib.hid (Bl.trans HB2.out (Bl.of_fr F4 HB2.out.size (fun k h => False.elim h)))
  clear hw4 FZ SZ bO FO F4 HO2 HB2 bO4
  go_wp2_with fail
  refine (grant_calls w4).mono ?_
  rintro e w5 ⟨rfl, hw5⟩
  have S5 := lit_slb w4 #[.int .u8 2] (0, 0) [2] (by simp) (by simp [maxLen]) (by intro i hi; simp at hi; subst hi; rfl)
  have B5 : Below w.heap.size w w5 := by rw [hw5]; exact HB4.out.alloc HB4.out.size _
  rw [← hw5] at S5
  have HG := Lib.hid (granted_calls _ _ _ _ w5 S5 (by simp))
  clear hw5 S5 HB4 cz c1 cO3
  go_wp2_with fail
  refine HG.out.mono ?_
  rintro e w6 ⟨rfl, B6⟩
  have B7 := Bl.trans B5 (Bl.low B6 B5.size)
  clear HG B5 B6
  go_wp2_with fail
  refine (granted_calls _ _ _ _ w6 (slb_nil w6) (by simp)).mono ?_
  rintro e w8 ⟨rfl, B8⟩
  go_wp2
  go_ret
  exact ⟨rfl, Bl.trans B7 (Bl.low B8 B7.size)⟩
end Go.Proofs.YtdbndinnakkloaaDoor.Dcp
