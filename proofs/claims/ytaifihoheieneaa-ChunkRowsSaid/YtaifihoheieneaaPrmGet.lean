/- Contract of param.Get. Conditions: each names its blocks and the bounds. -/
import Derived.Test.YtaifihoheieneaaPrmOwn
namespace Go.Proofs.Ytaifihoheieneaa.Prm
open Go.RowKit Go.Proofs.Ytaifihoheieneaa.Mem Go.Proofs.Ytaifihoheieneaa.Octet
set_option linter.unusedVariables false
set_option linter.unusedSimpArgs false
theorem nz_calls (x : Int) (w : World) : Calls Try.prog 62 #[.int .u8 x] w fun e w' => e = .returned (.bool (x != 0)) ∧ w' = w := by
  go_enter Try.func62, Try.ntmps62
  go_wp2
  go_ret
  exact ⟨rfl, rfl⟩
set_option maxHeartbeats 1000000 in
theorem index_calls (lo hi : Nat) (A : Option Addr) (c : Nat) (xs : List Int) (w : World) (h : RdB w lo hi A xs) (hl : xs.length ≤ 140737488355328) :
    Calls Try.prog 53 #[.slice A xs.length c, .func (.func 62) #[] #[]] w fun e w' => ∃ r : Int, e = .returned (.int .i64 r) ∧ decide (0 ≤ r) = xs.any (fun x => x != 0) ∧ w' = w := by
  go_enter Try.func53, Try.ntmps53
  go_wp2_with fail
  go_loopw [8] (fun i wr => ∃ k : Nat, k ≤ xs.length ∧ i = .int .i64 k ∧ (∀ j (h1 : j < xs.length), j < k → xs[j] = 0) ∧ wr = w) (fun i _ => xs.length - (intOf i).toNat)
  case atStart => exact ⟨0, Nat.zero_le _, rfl, (fun j _ h => by omega), rfl⟩
  case round =>
    obtain ⟨k, hk, rfl, hall, rfl⟩ := hrel
    by_cases hlt : k < xs.length
    · obtain ⟨ad, rfl, hc⟩ := h.at_ k hlt
      have HA := Lib.hid hall
      clear hall
      have hlt' : (k : Int) < xs.length := by omega
      by_cases hz : xs[k] = 0
      · have hz2 : (xs[k] != 0) = false := by simp [hz]
        have HZ := Lib.hid hz
        clear hz
        generalize hxk : xs[k] = x at hc hz2 HZ
        have HXK := Lib.hid hxk
        clear hxk
        go_wp2_with fail
        refine (nz_calls x _).mono ?_
        rintro e w1 ⟨he, rfl⟩
        rw [hz2] at he
        subst he
        go_wp2
        go_roundw
        case rel =>
          refine ⟨k + 1, by omega, by go_num, fun j h1 hj => ?_, by first | rfl | trivial⟩
          rcases Nat.lt_succ_iff_lt_or_eq.1 hj with hj | rfl
          · exact HA.out j h1 hj
          · exact HXK.out.trans HZ.out
        case measure => simp [intOf]; omega
      · have hz2 : (xs[k] != 0) = true := by simp [hz]
        have HF := Lib.hid (show xs.any (fun x => x != 0) = true from List.any_eq_true.2 ⟨xs[k], List.getElem_mem hlt, hz2⟩)
        clear hz
        generalize xs[k] = x at hc hz2
        go_wp2_with fail
        refine (nz_calls x _).mono ?_
        rintro e w1 ⟨he, rfl⟩
        rw [hz2] at he
        subst he
        go_wp2
        go_ret
        exact ⟨_, rfl, by rw [HF.out]; simp, rfl⟩
    · have HF := Lib.hid (show xs.any (fun x => x != 0) = false by
        rw [List.any_eq_false]
        intro x hx
        obtain ⟨j, hj, rfl⟩ := List.mem_iff_getElem.1 hx
        simp [hall j hj (by omega)])
      have hlt' : ¬ (k : Int) < xs.length := by omega
      clear hall
      go_wp2
      go_ret
      exact ⟨_, rfl, by rw [HF.out]; rfl, rfl⟩
set_option maxHeartbeats 1000000 in
theorem has_calls (lo hi : Nat) (A : Option Addr) (c : Nat) (xs : List Int) (w : World) (h : RdB w lo hi A xs) (hl : xs.length ≤ 140737488355328) :
    Calls Try.prog 40 #[.slice A xs.length c, .func (.func 62) #[] #[]] w fun e w' => e = .returned (.bool (xs.any (fun x => x != 0))) ∧ w' = w := by
  go_enter Try.func40, Try.ntmps40
  go_wp2_with fail
  refine (index_calls lo hi A c xs w h hl).mono ?_
  rintro e w1 ⟨r, rfl, hr, rfl⟩
  generalize hb : xs.any (fun x => x != 0) = b at hr
  have HB := Lib.hid hb
  clear hb
  go_wp2
  go_ret
  exact ⟨by rw [HB.out]; rfl, rfl⟩
theorem rd_short {rest : List Int} (h : rest.length < 4) : num (tk (lf rest 2) 2) = 0 ∧ lf (lf rest 2) 2 = [] ∧ bd (lf rest 2) (bd rest false 2) 2 = true := by
  by_cases h2 : (rest.length : Int) < 2
  · have e1 : lf rest 2 = [] := by unfold lf; rw [if_pos (by omega)]
    rw [e1]
    refine ⟨rfl, rfl, by unfold bd; rw [if_pos (by simp)]⟩
  · have e1 : lf rest 2 = rest.drop 2 := by unfold lf; rw [if_neg (by omega)]; rfl
    have l1 : ((rest.drop 2).length : Int) < 2 := by rw [List.length_drop]; omega
    rw [e1]
    refine ⟨by unfold tk; rw [if_pos (by omega)]; rfl, by unfold lf; rw [if_pos (by omega)], by unfold bd; rw [if_pos (by omega)]⟩
theorem num_pair (a b : Int) (ha : 0 ≤ a ∧ a < 256) (hb : 0 ≤ b ∧ b < 256) : num [a, b] = 256 * a + b := by
  show ((0 * 256 + a) % 4294967296 * 256 + b) % 4294967296 = _
  omega
theorem rd_ok {rest : List Int} (hb : IsB rest) (h : 4 ≤ rest.length) : num (tk rest 2) = 256 * at_ rest 0 + at_ rest 1 ∧ num (tk (lf rest 2) 2) = 256 * at_ rest 2 + at_ rest 3 ∧ lf (lf rest 2) 2 = rest.drop 4 ∧ bd (lf rest 2) (bd rest false 2) 2 = false := by
  match rest, h with
  | a :: b :: c :: d :: t, _ =>
    have h0 := hb a (by simp)
    have h1 := hb b (by simp)
    have h2 := hb c (by simp)
    have h3 := hb d (by simp)
    have e1 : lf (a :: b :: c :: d :: t) 2 = c :: d :: t := by unfold lf; rw [if_neg (by simp; omega)]; rfl
    have e2 : tk (a :: b :: c :: d :: t) 2 = [a, b] := by unfold tk; rw [if_neg (by simp; omega)]; rfl
    have e3 : tk (c :: d :: t) 2 = [c, d] := by unfold tk; rw [if_neg (by simp; omega)]; rfl
    have e4 : lf (c :: d :: t) 2 = t := by unfold lf; rw [if_neg (by simp; omega)]; rfl
    rw [e1, e2, e3, e4]
    refine ⟨num_pair a b h0 h1, num_pair c d h2 h3, rfl, ?_⟩
    unfold bd
    rw [if_neg (by simp; omega), if_neg (by simp; omega)]
theorem OwnPm.low {w : World} {base base' : Nat} {v : Value} {ps : List Pm} (h : OwnPm w base v ps) (hb : base' ≤ base) : OwnPm w base' v ps := by
  obtain ⟨qs, rfl, h1, h2⟩ := h
  refine ⟨qs, rfl, ?_, fun q hq => ⟨OwnB.low (h2 q hq).1 hb, (h2 q hq).2⟩⟩
  rcases h1.2 with h0 | ⟨g, cap, cur, rfl, hb', rest⟩
  · exact ⟨h1.1, .inl h0⟩
  · exact ⟨h1.1, .inr ⟨g, cap, cur, rfl, by omega, rest⟩⟩
/-- How many bytes a reader has left. -/
def leftIn (w : World) (g : Nat) : Nat := lenV ((w.cell? ⟨g, 0, none⟩).getD undef)
theorem Rdr.left {w : World} {g lo hi : Nat} {bs : List Int} {bad : Bool} (h : Rdr w g lo hi bs bad) : leftIn w g = bs.length := by
  obtain ⟨v, hb, ⟨A, cap, rfl, _⟩, _⟩ := h
  have := hb.cell 0
  simp at this
  unfold leftIn
  rw [this]
  rfl
theorem Rdr.lt {w : World} {g lo hi : Nat} {bs : List Int} {bad : Bool} (h : Rdr w g lo hi bs bad) : g < w.heap.size := by
  obtain ⟨v, hb, _⟩ := h
  exact hb.lt
theorem lf_nil (n : Int) : lf [] n = [] := by unfold lf; split <;> simp
theorem bd_true (bs : List Int) (n : Int) : bd bs true n = true := by unfold bd; split <;> rfl
theorem rd_two {L : List Int} {n p : Nat} (hn : 4 ≤ n) (hp : p = all n - n) : bd (lf L ((n : Int) - 4)) (bd L false ((n : Int) - 4)) p = decide (L.length + 4 < all n) := by
  have ha : n ≤ all n ∧ all n < n + 4 := by unfold all; omega
  by_cases h1 : (L.length : Int) < (n : Int) - 4
  · have e : bd L false ((n : Int) - 4) = true := by unfold bd; rw [if_pos (by omega)]
    rw [e, bd_true]
    exact (decide_eq_true (by omega)).symm
  · have e : bd L false ((n : Int) - 4) = false := by unfold bd; rw [if_neg (by omega)]
    have e2 : lf L ((n : Int) - 4) = L.drop (n - 4) := by unfold lf; rw [if_neg (by omega), show ((n : Int) - 4).toNat = n - 4 by omega]
    rw [e, e2]
    unfold bd
    rw [List.length_drop]
    by_cases h2 : L.length + 4 < all n
    · rw [if_pos (by omega), decide_eq_true h2]
    · rw [if_neg (by omega), decide_eq_false h2]
theorem rd_three {rest : List Int} {n p : Nat} (hn : 4 ≤ n) (hp : p = all n - n) (hl : all n ≤ rest.length) :
    tk (rest.drop 4) ((n : Int) - 4) = (rest.take n).drop 4 ∧ tk (lf (rest.drop 4) ((n : Int) - 4)) p = (rest.take (all n)).drop n ∧ lf (lf (rest.drop 4) ((n : Int) - 4)) p = rest.drop (all n) := by
  have ha : n ≤ all n ∧ all n < n + 4 := by unfold all; omega
  have e1 : lf (rest.drop 4) ((n : Int) - 4) = rest.drop n := by
    unfold lf
    rw [if_neg (by rw [List.length_drop]; omega), show ((n : Int) - 4).toNat = n - 4 by omega, List.drop_drop, show 4 + (n - 4) = n by omega]
  rw [e1]
  refine ⟨?_, ?_, ?_⟩
  · unfold tk
    rw [if_neg (by rw [List.length_drop]; omega), show ((n : Int) - 4).toNat = n - 4 by omega, List.drop_take]
  · unfold tk
    rw [if_neg (by rw [List.length_drop]; omega), Int.toNat_natCast, List.drop_take, hp]
  · unfold lf
    rw [if_neg (by rw [List.length_drop]; omega), Int.toNat_natCast, List.drop_drop, hp, show n + (all n - n) = all n by omega]
theorem one_ok {rest : List Int} {n : Nat} (h4 : 4 ≤ rest.length) (hn : 256 * at_ rest 2 + at_ rest 3 = n) (h : 4 ≤ n) (hl : all n ≤ rest.length) :
    one rest = if ((rest.take (all n)).drop n).any (fun x => x != 0) then .error 42 else .ok ((256 * at_ rest 0 + at_ rest 1, (rest.take n).drop 4), all n) := by
  unfold one
  rw [hn, Int.toNat_natCast, if_neg (by omega), if_neg (by omega), if_neg (by omega)]
theorem comb_err (ps : List Pm) (e : Int) (h : e ≠ 0) : comb ps ([], e) = ([], e) := by simp [comb, h]
theorem pad_num (n : Nat) : (4 - (n : Int) % 4) % 4 = ((all n - n : Nat) : Int) := by unfold all; omega
theorem new_two (w : World) (a b : Value) (t : TypeId) : ∀ j u, ([a, b] : List Value)[j]? = some u → (w.alloc (.cells #[a, b] t)).cell? ((⟨w.heap.size, 0, none⟩ : Addr).add j) = some u := by
  intro j u hu
  have h := Blk.new w #[a, b] t
  match j, hu with
  | 0, hu => exact (h.cell 0).trans hu
  | 1, hu => exact (h.cell 1).trans hu
/-- What param.Get hands back. -/
def GetR (w : World) (bs : List Int) (e : Ending) (w' : World) : Prop :=
  Below w.heap.size w w' ∧ ∃ B c, e = .returned (.tuple #[.slice B (dec bs).1.length c, .int .i64 (dec bs).2]) ∧ OwnPm w' w.heap.size (.slice B (dec bs).1.length c) (dec bs).1
set_option maxHeartbeats 4000000 in
theorem get_calls (lo hi : Nat) (v : Value) (bs : List Int) (w : World) (h : SlB w lo hi v bs) (hb : IsB bs) (hlen : bs.length ≤ 1000000) :
    Calls Try.prog 61 #[v] w (GetR w bs) := by
  go_enter Try.func61, Try.ntmps61
  go_wp2_with fail
  refine (new_calls lo hi v bs w h (by omega)).mono ?_
  rintro e w1 ⟨g, m, rfl, hm1, hm2, R, B1⟩
  have O1 := OwnPm.nil w1 (g + 1)
  have hlt1 := Rdr.lt R
  go_wp2_with fail
  go_loopw [5] (fun out wr => ∃ (ps : List Pm) (rest : List Int), rest.length ≤ 1000000 ∧ dec bs = comb ps (dec rest) ∧ Rdr wr g w.heap.size m rest false ∧ IsB rest ∧ OwnPm wr (g + 1) out ps ∧ ps.length * 4 + rest.length ≤ 1000000 ∧ Below w.heap.size w wr) (fun _ wr => leftIn wr g)
  case atStart => exact ⟨[], bs, hlen, (comb_nil _ dec_bad).symm, R, hb, O1, by simp; omega, B1⟩
  case round =>
    clear R O1 B1
    obtain ⟨ps, rest, hrl, hdec, R, hbr, O, hpl, B⟩ := hrel
    have hgl := Rdr.lt R
    have HDEC := Lib.hid hdec
    clear hdec
    have ML := Lib.hid (Rdr.left R)
    go_wp2_with fail
    refine (left_calls g _ _ _ _ _ R).mono ?_
    rintro e w2 ⟨rfl, rfl⟩
    by_cases h0 : rest.length = 0
    · have h0' : rest = [] := List.eq_nil_of_length_eq_zero h0
      subst h0'
      have HD := Lib.hid (show dec bs = (ps, 0) by rw [HDEC.out, dec_nil]; simp [comb])
      obtain ⟨A5, c5, rfl⟩ := O.shape
      clear h0
      go_wp2
      go_ret2
      refine ⟨B, ?_⟩
      rw [HD.out]
      exact ⟨_, _, rfl, O.fr (S := nothing) (Fr.refl _ _) (fun _ _ h => h) |>.low (by omega)⟩
    · have hpos : (0 : Int) < rest.length := by omega
      clear h0
      have hsep : ∀ b, g + 1 ≤ b → ¬ only g b := fun b h1 h2 => by have h3 : b = g := h2; omega
      go_wp2_with fail
      refine (u16_calls g _ _ _ _ _ R hbr hgl).mono ?_
      rintro e w3 ⟨rfl, R2, f⟩
      replace O := O.fr f hsep
      replace B := Bl.trans B (Bl.of_fr f B.size (fun k h => by have h3 : k = g := h; omega))
      have hgl := Rdr.lt R2
      clear R f
      have R := R2
      clear R2
      have hbr1 := isb_lf hbr 2
      go_wp2_with fail
      refine (u16_calls g _ _ _ _ _ R hbr1 hgl).mono ?_
      rintro e w4 ⟨rfl, R2, f⟩
      replace O := O.fr f hsep
      replace B := Bl.trans B (Bl.of_fr f B.size (fun k h => by have h3 : k = g := h; omega))
      have hgl := Rdr.lt R2
      clear R f
      have R := R2
      clear R2
      have hne : rest ≠ [] := by intro e; subst e; simp at hpos
      by_cases h4 : rest.length < 4
      · obtain ⟨e1, e2, e3⟩ := rd_short h4
        rw [e2, e3] at R
        rw [e1]
        have HD := Lib.hid (show dec bs = ([], 40) by rw [HDEC.out, dec_err hne (show one rest = .error 40 by unfold one; rw [if_pos h4]), comb_err _ _ (by decide)])
        clear e1 e2 e3 hbr1 h4 hne hbr
        generalize num (tk rest 2) = kk
        go_wp2_with fail
        refine (good_calls g _ _ _ _ _ R).mono ?_
        rintro e w5 ⟨rfl, rfl⟩
        go_wp2_with fail
        refine (take_out g _ _ _ _ _ _ R (.inl (by decide))).mono ?_
        rintro e w6 ⟨rfl, R2, f⟩
        replace O := O.fr f hsep
        replace B := Bl.trans B (Bl.of_fr f B.size (fun k h => by have h3 : k = g := h; omega))
        have hgl := Rdr.lt R2
        clear R f
        have R := R2
        clear R2
        go_wp2_with fail
        refine (take_bad g _ _ _ R).mono ?_
        rintro e w7 ⟨rfl, rfl⟩
        go_wp2_with fail
        refine (good_calls g _ _ _ _ _ R).mono ?_
        rintro e w8 ⟨rfl, rfl⟩
        go_wp2
        go_ret2
        refine ⟨B, ?_⟩
        rw [HD.out]
        exact ⟨_, _, rfl, OwnPm.nil _ _⟩
      · have h4' : 4 ≤ rest.length := by omega
        obtain ⟨e0, e1, e2, e3⟩ := rd_ok hbr h4'
        rw [e2, e3] at R
        have r0 := at_rng hbr 0
        have r1 := at_rng hbr 1
        have r2 := at_rng hbr 2
        have r3 := at_rng hbr 3
        obtain ⟨n, hn⟩ : ∃ n : Nat, 256 * at_ rest 2 + at_ rest 3 = n := ⟨(256 * at_ rest 2 + at_ rest 3).toNat, by omega⟩
        rw [e0, e1, hn]
        have hn16 : (n : Int) < 65536 := by omega
        have HNN := Lib.hid hn
        generalize hkk : 256 * at_ rest 0 + at_ rest 1 = kk
        have hk0 : 0 ≤ kk ∧ kk < 65536 := by omega
        have HKK := Lib.hid hkk
        clear e0 e1 e2 e3 hbr1 h4 r0 r1 r2 r3 hn hkk
        go_wp2_with fail
        refine (good_calls g _ _ _ _ _ R).mono ?_
        rintro e w5 ⟨rfl, rfl⟩
        by_cases hn4 : n < 4
        · have HD := Lib.hid (show dec bs = ([], 42) by rw [HDEC.out, dec_err hne (show one rest = .error 42 by unfold one; rw [if_neg (by omega), if_pos (by rw [HNN.out]; omega)]), comb_err _ _ (by decide)])
          have hd4 : decide ((n : Int) < 4) = true := decide_eq_true (by omega)
          clear hn4 hne hbr
          go_wp2
          go_ret2
          refine ⟨B, ?_⟩
          rw [HD.out]
          exact ⟨_, _, rfl, OwnPm.nil _ _⟩
        · have hd4 : decide ((n : Int) < 4) = false := decide_eq_false (by omega)
          have hn4' : 4 ≤ n := by omega
          clear hn4
          have HG5 := Lib.hid hgl
          obtain ⟨AO, cO, rfl⟩ := O.shape
          have HO5 := Lib.hid (fun k hk => (O.lt k hk).2)
          have HB5 := Lib.hid (fun k hk => (O.lt k hk).1)
          go_wp2_with fail
          refine (taken_calls g _ _ _ _ ((n : Int) - 4) _ R).mono ?_
          rintro e w6 ⟨A1, k1, c1, rfl, hk1, -, o1, R2, f⟩
          replace O := O.fr f hsep
          replace B := Bl.trans B (Bl.of_fr f B.size (fun k h => by have h3 : k = g := h; omega))
          have hgl := Rdr.lt R2
          clear R f
          have R := R2
          clear R2
          have HK1 := Lib.hid hk1
          clear hk1
          go_wp2_with fail
          rw [show (-((n : Int) % 4) % 4) = ((all n - n : Nat) : Int) by unfold all; omega]
          obtain ⟨p, hp⟩ : ∃ p, p = all n - n := ⟨_, rfl⟩
          rw [← hp]
          refine (taken_calls g _ _ _ _ (p : Int) _ R).mono ?_
          rintro e w7 ⟨A2, k2, c2, rfl, hk2, -, o2, R2, f⟩
          replace O := O.fr f hsep
          replace B := Bl.trans B (Bl.of_fr f B.size (fun k h => by have h3 : k = g := h; omega))
          replace o1 := OwnB.fr o1 f (fun k h1 h2 => by have h3 : k = g := h2; have := OwnB.ge o1 k h1; have := HG5.out; omega)
          have hgl := Rdr.lt R2
          have HK2 := Lib.hid hk2
          clear R f hk2
          rw [rd_two hn4' hp, show (rest.drop 4).length + 4 = rest.length by rw [List.length_drop]; omega] at R2
          go_wp2_with fail
          refine (good_calls g _ _ _ _ _ R2).mono ?_
          rintro e w8 ⟨rfl, rfl⟩
          by_cases h5 : rest.length < all n
          · rw [decide_eq_true h5]
            have HD := Lib.hid (show dec bs = ([], 40) by rw [HDEC.out, dec_err hne (show one rest = .error 40 by unfold one; rw [if_neg (by omega), HNN.out, Int.toNat_natCast, if_neg (by omega), if_pos h5]), comb_err _ _ (by decide)])
            clear hne hbr h5
            go_wp2
            go_ret2
            refine ⟨B, ?_⟩
            rw [HD.out]
            exact ⟨_, _, rfl, OwnPm.nil _ _⟩
          · rw [decide_eq_false h5]
            rw [decide_eq_false h5] at R2
            have h5' : all n ≤ rest.length := by omega
            have HONE := Lib.hid (one_ok h4' HNN.out hn4' h5')
            obtain ⟨t1, t2, t3⟩ := rd_three hn4' hp h5'
            rw [t1] at o1 HK1
            rw [t2] at o2 HK2
            rw [t3] at R2
            have hal : all n ≤ n + 3 := by unfold all; omega
            have HL1 := Lib.hid (show ((rest.take n).drop 4).length ≤ 65535 by rw [List.length_drop, List.length_take]; omega)
            have HL2 := Lib.hid (show ((rest.take (all n)).drop n).length ≤ 65535 by rw [List.length_drop, List.length_take]; omega)
            have rB : RdB w8 w6.heap.size w8.heap.size A2 ((rest.take (all n)).drop n) := by
              obtain ⟨A', cc, e, q1, q2, q3, q4⟩ := SlB.of_own o2
              injection e with e1 _ _
              subst e1
              exact q4
            rw [HKK.out] at HONE
            clear t1 t2 t3 h5 hne
            generalize hpd : (rest.take (all n)).drop n = pad at rB o2 HK2 HL2 HONE
            generalize hvl : (rest.take n).drop 4 = xs at o1 HK1 HL1 HONE
            clear hpd hvl
            have e2 : k2 = pad.length := HK2.out
            subst e2
            go_wp2_with fail
            refine (has_calls _ _ A2 c2 pad w8 rB (by have := HL2.out; omega)).mono ?_
            rintro e w9 ⟨rfl, rfl⟩
            cases hany : pad.any (fun x => x != 0) with
            | true =>
              have HD := Lib.hid (show dec bs = ([], 42) by rw [HDEC.out, dec_err (by intro e; subst e; simp at hpos) (show one rest = .error 42 by rw [HONE.out, hany, if_pos rfl]), comb_err _ _ (by decide)])
              clear hany
              go_wp2
              go_ret2
              refine ⟨B, ?_⟩
              rw [HD.out]
              exact ⟨_, _, rfl, OwnPm.nil _ _⟩
            | false =>
              have HD := Lib.hid (show dec bs = comb (ps ++ [(kk, xs)]) (dec (rest.drop (all n))) by rw [HDEC.out, dec_ok (show one rest = .ok ((kk, xs), all n) by rw [HONE.out, hany, if_neg (by decide)]), comb_comb])
              have e1 : k1 = xs.length := HK1.out
              subst e1
              clear hany HK1 HK2
              obtain ⟨qs, hps, hrow, hel⟩ := O
              have hql : qs.length = ps.length := by rw [hps, List.length_map]
              have hqb : qs.length + 1 ≤ 1000000 := by omega
              have hrow2 := row_fr (S := nothing) hrow ((Fr.refl _ w9).alloc (.cells #[.int .u16 kk, .slice A1 xs.length c1] 57)) (fun _ _ h => h)
              have hel2 : ∀ q ∈ qs, OwnB (w9.alloc (.cells #[.int .u16 kk, .slice A1 xs.length c1] 57)) (g + 1) 5 q.2 q.1.2 ∧ ∀ k, q.2.ownBlock = some k → (Value.slice AO ps.length cO).ownBlock ≠ some k :=
                fun q hq => ⟨OwnB.fr (hel q hq).1 (S := nothing) ((Fr.refl _ w9).alloc _) (fun _ _ h => h), (hel q hq).2⟩
              have o1' : OwnB (w9.alloc (.cells #[.int .u16 kk, .slice A1 xs.length c1] 57)) (g + 1) 5 (.slice A1 xs.length c1) xs :=
                OwnB.low (OwnB.fr o1 (S := nothing) ((Fr.refl _ w9).alloc _) (fun _ _ h => h)) HG5.out
              have hne1 : ∀ k, (Value.slice A1 xs.length c1).ownBlock = some k → (Value.slice AO ps.length cO).ownBlock ≠ some k := fun k h1 h2 => by
                have := OwnB.ge o1 k h1; have := HO5.out k h2; omega
              have R3 := Rdr.fr (S := nothing) R2 ((Fr.refl _ w9).alloc (.cells #[.int .u16 kk, .slice A1 xs.length c1] 57)) id (fun _ _ _ h => h)
              have B3 := B.alloc B.size (.cells #[.int .u16 kk, .slice A1 xs.length c1] 57)
              have bN := Blk.new w9 #[.int .u16 kk, .slice A1 xs.length c1] 57
              have hnews : ∀ j u, ([.int .u16 kk, .slice A1 xs.length c1] : List Value)[j]? = some u → (w9.alloc (.cells #[.int .u16 kk, .slice A1 xs.length c1] 57)).cell? ((⟨w9.heap.size, 0, none⟩ : Addr).add j) = some u := new_two w9 _ _ _
              obtain ⟨i0, hi0, hz0, hz1, hz2⟩ := info_parts info_p
              have hgb : g + 1 ≤ (w9.alloc (.cells #[.int .u16 kk, .slice A1 xs.length c1] 57)).heap.size := by simp; omega
              have HPS := Lib.hid hps
              have HM := Lib.hid hm2
              have HAL := Lib.hid (show 4 ≤ all n by unfold all; omega)
              clear hrow hel o1 o2 R2 B hps bN hql
              have hin : qs.length + 1 ≤ maxLen := by unfold maxLen; omega
              have hby : (qs.length + 1) * 32 ≤ 140737488355328 := by omega
              go_wp2_with (at_builtin; refine wpList_append_c _ rfl (.tmp 41) (.tmp 45) _ rfl (g + 1) 57 i0 _ 2 32 Try.underlying28 hi0 hz0 hz1 hz2 rfl (by decide) _ qs.length (pcells qs) rfl hrow2 ⟨w9.heap.size, 0, none⟩ 1 1 [.int .u16 kk, .slice A1 xs.length c1] rfl rfl hnews (by intro u hu; simp at hu; rcases hu with rfl | rfl <;> rfl) hin hby hgb ?_; intro v' w' hown hg hat; have O2 := OwnPm.more HPS.out hel2 o1' hne1 hown hg hat; have fG : Fr (OfV (.slice AO ps.length cO)) (w9.alloc (.cells #[.int .u16 kk, .slice A1 xs.length c1] 57)) w' := (Fr.refl _ _).grown hg (fun k hk => .inl hk); have HO2 := Lib.hid O2; have HFG := Lib.hid fG; clear hown hg hat O2 fG hel2 o1' hnews hrow2)
              go_roundw
              case rel =>
                have fG := HFG.out
                have hge : ∀ b, OfV (.slice AO ps.length cO) b → g + 1 ≤ b := fun b hb => HB5.out b hb
                refine ⟨ps ++ [(kk, xs)], rest.drop (all n), by rw [List.length_drop]; omega, HD.out, R3.fr fG (fun h => by have := hge _ h; omega) (fun b _ h2 h => by have := hge _ h; have := HM.out; omega), isb_drop hbr _, HO2.out, ?_, Bl.trans B3 (Bl.of_fr fG B3.size (fun b h => by have := hge _ h; have := HM.out; omega))⟩
                have := HAL.out
                rw [List.length_append, List.length_drop]
                simp
                omega
              case measure =>
                have fG := HFG.out
                have hge : ∀ b, OfV (.slice AO ps.length cO) b → g + 1 ≤ b := fun b hb => HB5.out b hb
                have R4 := R3.fr fG (fun h => by have := hge _ h; omega) (fun b _ h2 h => by have := hge _ h; have := HM.out; omega)
                have := HAL.out
                rw [Rdr.left R4, ML.out, List.length_drop]
                omega
end Go.Proofs.Ytaifihoheieneaa.Prm
