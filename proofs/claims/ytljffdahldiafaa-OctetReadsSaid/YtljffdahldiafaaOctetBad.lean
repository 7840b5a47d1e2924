/- The walk of flumelaw04.OctetBad: true for every input. No conditions but the row's own. -/
import Derived.Test.YtljffdahldiafaaOctetFirst
import Derived.Test.YtljffdahldiafaaArgs
namespace Go.Proofs.Ytljffdahldiafaa.OctetBad
open Go.RowKit Go.Proofs.Ytljffdahldiafaa.Mem Go.Proofs.Ytljffdahldiafaa.Octet
set_option linter.unusedVariables false
set_option linter.unusedSimpArgs false
attribute [local go_sem] max2_mx min2_mn max_two min_two

theorem rdb_of {w : World} {A : Option Addr} {xs : List Int} (h : ReadsI w .u8 A xs) : RdB w 0 w.heap.size A xs := by
  rcases h with h | ⟨ad, e, h⟩
  · exact .inl h
  · rcases Nat.eq_zero_or_pos xs.length with h0 | h0
    · exact .inl (List.eq_nil_of_length_eq_zero h0)
    · refine .inr ⟨ad, e, Nat.zero_le _, ?_, h⟩
      have := World.block_lt_of_cell? w _ (h 0 h0)
      rwa [add_block] at this
theorem slb_cut {w : World} {A : Option Addr} {xs : List Int} {cap : Nat} (h : ReadsI w .u8 A xs) (hc : xs.length ≤ cap) (hm : cap ≤ maxLen) (hn : A = none → cap = 0) (K : Nat) (hK : K ≤ xs.length) :
    SlB w 0 w.heap.size (.slice A K cap) (xs.take K) := by
  have e : (xs.take K).length = K := by simp; omega
  exact ⟨A, cap, by rw [e], by omega, hm, hn, (rdb_of h).take K⟩
theorem SlB.bl {w w' : World} {lo hi base : Nat} {v : Value} {xs : List Int} (h : SlB w lo hi v xs) (f : Below base w w') (hb : hi ≤ base) : SlB w' lo hi v xs := by
  exact h.fr (Bl.fr f) (fun k _ h2 h3 => by omega)

def um (x m : Int) : Int := wrap64 ((IntKind.u64.wrap x).tmod m)
theorem um_range (x m : Int) (h0 : 0 < m) (h1 : m ≤ 1000000) : 0 ≤ um x m ∧ um x m < m := by
  have e : IntKind.u64.wrap x = x % 18446744073709551616 := by simp [IntKind.wrap, IntKind.bits, IntKind.signed]
  unfold um
  rw [e, Int.tmod_eq_emod_of_nonneg (by omega)]
  have h2 := Int.emod_nonneg (x % 18446744073709551616) (show m ≠ 0 by omega)
  have h3 := Int.emod_lt_of_pos (x % 18446744073709551616) h0
  unfold wrap64
  omega
theorem range_u8 (x : Int) (h : (Lit.int .u8 x).wf = true) : 0 ≤ x ∧ x < 256 := by
  simp [Lit.wf, IntKind.min, IntKind.max, IntKind.bits, IntKind.signed] at h
  omega
theorem tk_nil (n : Int) : tk [] n = [] := by unfold tk; split <;> simp
theorem lf_nil (n : Int) : lf [] n = [] := by unfold lf; split <;> simp
theorem bd_true (bs : List Int) (n : Int) : bd bs true n = true := by unfold bd; split <;> rfl
def Bad1 (w : World) (g lo hi : Nat) (k : IntKind) (e : Ending) (w' : World) : Prop := e = .returned (.int k 0) ∧ Rdr w' g lo hi [] true ∧ Fr (only g) w w'
theorem bad1 {w w' : World} {g lo hi : Nat} {k : IntKind} {n : Int} {e : Ending} (h : Num1P w g lo hi [] true k n e w') : Bad1 w g lo hi k e w' := by
  obtain ⟨h1, h2, h3⟩ := h
  rw [tk_nil] at h1
  rw [lf_nil, bd_true] at h2
  exact ⟨h1, h2, h3⟩
theorem rlt {w : World} {g lo hi : Nat} {bs : List Int} {bad : Bool} (h : Rdr w g lo hi bs bad) : g < w.heap.size := by obtain ⟨_, h, _⟩ := h; exact h.lt
theorem isb_nil : IsB [] := fun x h => by simp at h
theorem u8_bad (g lo hi : Nat) (w : World) (h : Rdr w g lo hi [] true) : Calls Try.prog 14 #[.pointer (some ⟨g, 0, none⟩)] w (Bad1 w g lo hi .u8) := (u8_calls g lo hi [] true w h isb_nil (rlt h)).mono fun _ _ h => bad1 h
theorem u16_bad (g lo hi : Nat) (w : World) (h : Rdr w g lo hi [] true) : Calls Try.prog 16 #[.pointer (some ⟨g, 0, none⟩)] w (Bad1 w g lo hi .u16) := (u16_calls g lo hi [] true w h isb_nil (rlt h)).mono fun _ _ h => bad1 h
theorem u32_bad (g lo hi : Nat) (w : World) (h : Rdr w g lo hi [] true) : Calls Try.prog 17 #[.pointer (some ⟨g, 0, none⟩)] w (Bad1 w g lo hi .u32) := (u32_calls g lo hi [] true w h isb_nil (rlt h)).mono fun _ _ h => bad1 h
def BadT (w : World) (g lo hi : Nat) (e : Ending) (w' : World) : Prop := ∃ A cap, e = .returned (.slice A 0 cap) ∧ Rdr w' g lo hi [] true ∧ Fr (only g) w w'
theorem take_bad' (g lo hi : Nat) (w : World) (bs : List Int) (bad : Bool) (n : Int) (h : Rdr w g lo hi bs bad) (hn : bs = [] ∧ bad = true ∨ n < 0 ∨ (bs.length : Int) < n) : Calls Try.prog 18 #[.pointer (some ⟨g, 0, none⟩), .int .i64 n] w (BadT w g lo hi) := by
  refine (taken_calls g lo hi bs bad n w h).mono ?_
  rintro e w' ⟨A, k, cap, rfl, hk, -, -, R, f⟩
  have e1 : tk bs n = [] := by
    rcases hn with ⟨rfl, _⟩ | hn
    · exact tk_nil n
    · exact if_pos hn
  have e2 : lf bs n = [] := by
    rcases hn with ⟨rfl, _⟩ | hn
    · exact lf_nil n
    · exact if_pos hn
  have e3 : bd bs bad n = true := by
    rcases hn with ⟨_, rfl⟩ | hn
    · exact bd_true _ n
    · exact if_pos hn
  rw [e1] at hk
  rw [e2, e3] at R
  obtain rfl : k = 0 := by simpa using hk
  exact ⟨A, cap, rfl, R, f⟩

set_option maxHeartbeats 2000000 in
set_option maxRecDepth 100000 in
theorem walk (a : Option Addr) (cap : Nat) (l : List Int) (n : Int) (a2 : Option Addr) (cap2 : Nat) (s : List Int) (w : World) (hr : ReadsI w .u8 a l) (hc : l.length ≤ cap) (hm : cap ≤ maxLen) (hy : l.length * 1 ≤ 140737488351232)
    (hw : ∀ x ∈ l, (Lit.int .u8 x).wf = true) (hnil : a = none → cap = 0) (hwn : (Lit.int .i64 n).wf = true)
    (hr2 : ReadsI w .u8 a2 s) (hc2 : s.length ≤ cap2) (hm2 : cap2 ≤ maxLen) (hy2 : s.length * 1 ≤ 140737488351232) (hw2 : ∀ x ∈ s, (Lit.int .u8 x).wf = true) (hnil2 : a2 = none → cap2 = 0) :
    Calls Try.prog 5 #[.slice a l.length cap, .int .i64 n, .slice a2 s.length cap2] w fun e w' => e = .returned (.bool true) ∧ Below w.heap.size w w' := by
  obtain ⟨K, hK⟩ : ∃ K : Nat, mn l.length 2000 = K := ⟨min l.length 2000, by unfold mn; split <;> omega⟩
  have hK1 : K ≤ l.length ∧ K ≤ 2000 := by unfold mn at hK; split at hK <;> omega
  have X0 := slb_cut hr hc hm hnil K hK1.1
  have hKc : K ≤ cap := by omega
  have HS := Lib.hid hw2
  have HN := Lib.hid hwn
  clear hw2 hwn hr hw hnil hnil2 hy
  go_enter Try.func5, Try.ntmps5
  go_wp2_with fail
  refine (first_calls w).mono ?_
  rintro e w0 ⟨rfl, B0⟩
  replace X0 := SlB.bl X0 B0 (Nat.le_refl _)
  go_wp2_with fail
  refine (new_calls _ _ _ _ w0 X0 (by rw [List.length_take]; omega)).mono ?_
  rintro e w1 ⟨g, m, rfl, hm1, hm2, R1, B1⟩
  have hg : w.heap.size ≤ g := by have := B0.size; omega
  replace B1 := Bl.trans B0 (Bl.low B1 B0.size)
  clear X0 B0
  have hlen : ((l.take K).length : Int) = K := by rw [List.length_take]; omega
  rcases (show n < 0 ∨ 0 ≤ n by omega) with hn | hn
  · go_wp2_with fail
    refine (take_bad' g _ _ w1 _ _ _ R1 (.inr (.inl hn))).mono ?_
    rintro e w2 ⟨A, c, rfl, R2, f2⟩
    have B2 := Bl.trans B1 (Bl.of_fr f2 B1.size (fun k hk => by have e : k = g := hk; omega))
    clear f2 R1 B1
    go_wp2_with fail
    refine (good_calls g _ _ _ _ w2 R2).mono ?_
    rintro e w' ⟨rfl, rfl⟩
    go_wp2_with fail
    go_loopw [45] (fun i wr => ∃ k : Nat, k ≤ s.length ∧ i = .int .i64 k ∧ Rdr wr g w0.heap.size m [] true ∧ Below w.heap.size w wr) (fun i _ => s.length - (intOf i).toNat)
    case atStart => exact ⟨0, Nat.zero_le _, rfl, R2, B2⟩
    case round =>
      obtain ⟨k, hk, rfl, R, B⟩ := hrel
      by_cases hlt : k < s.length
      · by_cases h30 : 30 ≤ k
        · obtain ⟨ad, rfl, hcell⟩ := (hr2.below B).at_ k hlt
          have h30' : (30 : Int) ≤ k := by omega
          go_wp2_with fail
          refine (good_calls g _ _ _ _ wr R).mono ?_
          rintro e w' ⟨rfl, rfl⟩
          go_wp2_with fail
          refine (left_calls g _ _ _ _ w' R).mono ?_
          rintro e w'' ⟨rfl, rfl⟩
          go_wp2_with fail
          refine (end_calls g _ _ _ _ w'' R).mono ?_
          rintro e w' ⟨he, rfl⟩
          rw [show endOf [] true = 40 from rfl] at he
          subst he
          go_wp2
          go_ret
          exact ⟨rfl, B⟩
        · obtain ⟨ad, rfl, hcell⟩ := (hr2.below B).at_ k hlt
          have h30' : ¬ (30 : Int) ≤ k := by omega
          have hx := range_u8 _ (HS.out _ (List.getElem_mem hlt))
          generalize s[k] = x at hcell hx
          obtain ⟨hx0, hx1⟩ := hx
          rcases (show x % 4 = 0 ∨ x % 4 = 1 ∨ x % 4 = 2 ∨ x % 4 = 3 by omega) with h4 | h4 | h4 | h4
          · have HX := Lib.hid (show x.tmod 4 = 0 by rw [Int.tmod_eq_emod_of_nonneg hx0]; exact h4)
            go_wp2_with fail
            refine (u8_bad g _ _ wr R).mono ?_
            rintro e w3 ⟨rfl, R3, f3⟩
            have B3 := Bl.trans B (Bl.of_fr f3 B.size (fun k hk => by have e : k = g := hk; omega))
            clear f3 R B
            go_wp2
            go_roundw
            case rel => exact ⟨k + 1, by omega, by go_num, R3, B3⟩
            case measure => simp [intOf]; omega
          · have HX := Lib.hid (show x.tmod 4 = 1 by rw [Int.tmod_eq_emod_of_nonneg hx0]; exact h4)
            go_wp2_with fail
            refine (u16_bad g _ _ wr R).mono ?_
            rintro e w3 ⟨rfl, R3, f3⟩
            have B3 := Bl.trans B (Bl.of_fr f3 B.size (fun k hk => by have e : k = g := hk; omega))
            clear f3 R B
            go_wp2
            go_roundw
            case rel => exact ⟨k + 1, by omega, by go_num, R3, B3⟩
            case measure => simp [intOf]; omega
          · have HX := Lib.hid (show x.tmod 4 = 2 by rw [Int.tmod_eq_emod_of_nonneg hx0]; exact h4)
            go_wp2_with fail
            refine (u32_bad g _ _ wr R).mono ?_
            rintro e w3 ⟨rfl, R3, f3⟩
            have B3 := Bl.trans B (Bl.of_fr f3 B.size (fun k hk => by have e : k = g := hk; omega))
            clear f3 R B
            go_wp2
            go_roundw
            case rel => exact ⟨k + 1, by omega, by go_num, R3, B3⟩
            case measure => simp [intOf]; omega
          · have HX := Lib.hid (show x.tmod 4 = 3 by rw [Int.tmod_eq_emod_of_nonneg hx0]; exact h4)
            go_wp2_with fail
            refine (take_bad' g _ _ wr [] true _ R (.inl ⟨rfl, rfl⟩)).mono ?_
            rintro e w3 ⟨A', c', rfl, R3, f3⟩
            have B3 := Bl.trans B (Bl.of_fr f3 B.size (fun k hk => by have e : k = g := hk; omega))
            clear f3 R B
            go_wp2
            go_roundw
            case rel => exact ⟨k + 1, by omega, by go_num, R3, B3⟩
            case measure => simp [intOf]; omega
      · obtain rfl : k = s.length := by omega
        go_wp2_with fail
        refine (good_calls g _ _ _ _ wr R).mono ?_
        rintro e w' ⟨rfl, rfl⟩
        go_wp2_with fail
        refine (left_calls g _ _ _ _ w' R).mono ?_
        rintro e w'' ⟨rfl, rfl⟩
        go_wp2_with fail
        refine (end_calls g _ _ _ _ w'' R).mono ?_
        rintro e w' ⟨he, rfl⟩
        rw [show endOf [] true = 40 from rfl] at he
        subst he
        go_wp2
        go_ret
        exact ⟨rfl, B⟩
  · have hu := um_range n 1000 (by omega) (by omega)
    unfold um at hu
    have hn' : ¬ n < 0 := by omega
    go_wp2_with fail
    generalize wrap64 ((IntKind.u64.wrap n).tmod 1000) = u at hu ⊢
    obtain ⟨hu0, hu1⟩ := hu
    have ew : wrap64 (↑K + 1 + u) = ↑K + 1 + u := by unfold wrap64; omega
    refine (take_bad' g _ _ w1 _ _ _ R1 (.inr (.inr (by (try rw [ew]); rw [hlen]; omega)))).mono ?_
    rintro e w2 ⟨A, c, rfl, R2, f2⟩
    have B2 := Bl.trans B1 (Bl.of_fr f2 B1.size (fun k hk => by have e : k = g := hk; omega))
    clear f2 R1 B1
    go_wp2_with fail
    refine (good_calls g _ _ _ _ w2 R2).mono ?_
    rintro e w' ⟨rfl, rfl⟩
    go_wp2_with fail
    go_loopw [45] (fun i wr => ∃ k : Nat, k ≤ s.length ∧ i = .int .i64 k ∧ Rdr wr g w0.heap.size m [] true ∧ Below w.heap.size w wr) (fun i _ => s.length - (intOf i).toNat)
    case atStart => exact ⟨0, Nat.zero_le _, rfl, R2, B2⟩
    case round =>
      obtain ⟨k, hk, rfl, R, B⟩ := hrel
      by_cases hlt : k < s.length
      · by_cases h30 : 30 ≤ k
        · obtain ⟨ad, rfl, hcell⟩ := (hr2.below B).at_ k hlt
          have h30' : (30 : Int) ≤ k := by omega
          go_wp2_with fail
          refine (good_calls g _ _ _ _ wr R).mono ?_
          rintro e w' ⟨rfl, rfl⟩
          go_wp2_with fail
          refine (left_calls g _ _ _ _ w' R).mono ?_
          rintro e w'' ⟨rfl, rfl⟩
          go_wp2_with fail
          refine (end_calls g _ _ _ _ w'' R).mono ?_
          rintro e w' ⟨he, rfl⟩
          rw [show endOf [] true = 40 from rfl] at he
          subst he
          go_wp2
          go_ret
          exact ⟨rfl, B⟩
        · obtain ⟨ad, rfl, hcell⟩ := (hr2.below B).at_ k hlt
          have h30' : ¬ (30 : Int) ≤ k := by omega
          have hx := range_u8 _ (HS.out _ (List.getElem_mem hlt))
          generalize s[k] = x at hcell hx
          obtain ⟨hx0, hx1⟩ := hx
          rcases (show x % 4 = 0 ∨ x % 4 = 1 ∨ x % 4 = 2 ∨ x % 4 = 3 by omega) with h4 | h4 | h4 | h4
          · have HX := Lib.hid (show x.tmod 4 = 0 by rw [Int.tmod_eq_emod_of_nonneg hx0]; exact h4)
            go_wp2_with fail
            refine (u8_bad g _ _ wr R).mono ?_
            rintro e w3 ⟨rfl, R3, f3⟩
            have B3 := Bl.trans B (Bl.of_fr f3 B.size (fun k hk => by have e : k = g := hk; omega))
            clear f3 R B
            go_wp2
            go_roundw
            case rel => exact ⟨k + 1, by omega, by go_num, R3, B3⟩
            case measure => simp [intOf]; omega
          · have HX := Lib.hid (show x.tmod 4 = 1 by rw [Int.tmod_eq_emod_of_nonneg hx0]; exact h4)
            go_wp2_with fail
            refine (u16_bad g _ _ wr R).mono ?_
            rintro e w3 ⟨rfl, R3, f3⟩
            have B3 := Bl.trans B (Bl.of_fr f3 B.size (fun k hk => by have e : k = g := hk; omega))
            clear f3 R B
            go_wp2
            go_roundw
            case rel => exact ⟨k + 1, by omega, by go_num, R3, B3⟩
            case measure => simp [intOf]; omega
          · have HX := Lib.hid (show x.tmod 4 = 2 by rw [Int.tmod_eq_emod_of_nonneg hx0]; exact h4)
            go_wp2_with fail
            refine (u32_bad g _ _ wr R).mono ?_
            rintro e w3 ⟨rfl, R3, f3⟩
            have B3 := Bl.trans B (Bl.of_fr f3 B.size (fun k hk => by have e : k = g := hk; omega))
            clear f3 R B
            go_wp2
            go_roundw
            case rel => exact ⟨k + 1, by omega, by go_num, R3, B3⟩
            case measure => simp [intOf]; omega
          · have HX := Lib.hid (show x.tmod 4 = 3 by rw [Int.tmod_eq_emod_of_nonneg hx0]; exact h4)
            go_wp2_with fail
            refine (take_bad' g _ _ wr [] true _ R (.inl ⟨rfl, rfl⟩)).mono ?_
            rintro e w3 ⟨A', c', rfl, R3, f3⟩
            have B3 := Bl.trans B (Bl.of_fr f3 B.size (fun k hk => by have e : k = g := hk; omega))
            clear f3 R B
            go_wp2
            go_roundw
            case rel => exact ⟨k + 1, by omega, by go_num, R3, B3⟩
            case measure => simp [intOf]; omega
      · obtain rfl : k = s.length := by omega
        go_wp2_with fail
        refine (good_calls g _ _ _ _ wr R).mono ?_
        rintro e w' ⟨rfl, rfl⟩
        go_wp2_with fail
        refine (left_calls g _ _ _ _ w' R).mono ?_
        rintro e w'' ⟨rfl, rfl⟩
        go_wp2_with fail
        refine (end_calls g _ _ _ _ w'' R).mono ?_
        rintro e w' ⟨he, rfl⟩
        rw [show endOf [] true = 40 from rfl] at he
        subst he
        go_wp2
        go_ret
        exact ⟨rfl, B⟩
end Go.Proofs.Ytljffdahldiafaa.OctetBad
