/- Contracts of octet.Reader. Conditions: each names its blocks and the bounds. -/
import Derived.Test.YtaifihoheieneaaSl
namespace Go.Proofs.Ytaifihoheieneaa.Octet
open Go.RowKit Go.Proofs.Ytaifihoheieneaa.Mem
set_option linter.unusedVariables false
set_option linter.unusedSimpArgs false
attribute [local go_sem] max2_mx min2_mn max_two min_two

/-- A reader at block g: what is left, whether it is bad; its bytes lie in blocks from lo on, below hi. -/
def Rdr (w : World) (g lo hi : Nat) (bs : List Int) (bad : Bool) : Prop :=
  ∃ v, Blk w g 106 #[v, .bool bad] ∧ SlB w lo hi v bs ∧ (g < lo ∨ hi ≤ g) ∧ bs.length ≤ 140737488355328 ∧ (bad = true → bs = [])
theorem Rdr.fr {w w' : World} {g lo hi : Nat} {bs : List Int} {bad : Bool} {S : Nat → Prop} (h : Rdr w g lo hi bs bad) (f : Fr S w w') (hg : ¬ S g) (hs : ∀ k, lo ≤ k → k < hi → ¬ S k) : Rdr w' g lo hi bs bad := by
  obtain ⟨v, hb, h1, h2⟩ := h
  exact ⟨v, hb.fr f hg, h1.fr f hs, h2⟩
/-- What is left of bytes behind a take of n. -/
def tk (bs : List Int) (n : Int) : List Int := if n < 0 ∨ (bs.length : Int) < n then [] else bs.take n.toNat
def lf (bs : List Int) (n : Int) : List Int := if n < 0 ∨ (bs.length : Int) < n then [] else bs.drop n.toNat
def bd (bs : List Int) (bad : Bool) (n : Int) : Bool := if n < 0 ∨ (bs.length : Int) < n then true else bad

set_option maxHeartbeats 1000000 in
theorem take_out (g lo hi : Nat) (bs : List Int) (bad : Bool) (n : Int) (w : World) (h : Rdr w g lo hi bs bad) (hn : n < 0 ∨ (bs.length : Int) < n) :
    Calls Try.prog 39 #[.pointer (some ⟨g, 0, none⟩), .int .i64 n] w fun e w' => e = .returned (.slice none 0 0) ∧ Rdr w' g lo hi [] true ∧ Fr (only g) w w' := by
  obtain ⟨v, hb, ⟨A, cap, rfl, h1, h2, h3, h4⟩, h5, h6, h7⟩ := h
  unfold maxLen at h2
  have c0 := hb.cell 0
  have c1 := hb.cell 1
  have f0 := hb.frozen 0
  have f1 := hb.frozen 1
  simp at c0 c1
  have hur := Try.underlying106
  have fin : ∀ w', Blk w' g 106 #[.slice none 0 0, .bool true] → Fr (only g) w w' → Rdr w' g lo hi [] true ∧ Fr (only g) w w' :=
    fun w' hb' hf => ⟨⟨_, hb', ⟨none, 0, rfl, Nat.le_refl _, Nat.zero_le _, fun _ => rfl, .inl rfl⟩, h5, Nat.zero_le _, fun _ => rfl⟩, hf⟩
  have FIN := Lib.hid fin
  clear fin h3 h7
  rcases hn with hn | hn
  · go_enter Try.func39, Try.ntmps39
    go_wp2
    go_ret
    refine ⟨rfl, FIN.out _ ?_ ?_⟩
    · apply Blk.cast
      · (repeat (with_reducible first | exact hb | apply Blk.set | apply Blk.drewN | apply Blk.drew | apply Blk.alloc))
      · simp
    · (repeat (with_reducible first | exact Fr.refl _ _ | apply Fr.drewN | apply Fr.drew | apply Fr.alloc | apply Fr.set_only))
  · have hn0 : ¬ n < 0 := by omega
    go_enter Try.func39, Try.ntmps39
    go_wp2
    go_ret
    refine ⟨rfl, FIN.out _ ?_ ?_⟩
    · apply Blk.cast
      · (repeat (with_reducible first | exact hb | apply Blk.set | apply Blk.drewN | apply Blk.drew | apply Blk.alloc))
      · simp
    · (repeat (with_reducible first | exact Fr.refl _ _ | apply Fr.drewN | apply Fr.drew | apply Fr.alloc | apply Fr.set_only))

set_option maxHeartbeats 1000000 in
theorem take_in (g lo hi : Nat) (bs : List Int) (n : Nat) (w : World) (h : Rdr w g lo hi bs false) (hn : n ≤ bs.length) :
    Calls Try.prog 39 #[.pointer (some ⟨g, 0, none⟩), .int .i64 n] w fun e w' => ∃ v, e = .returned v ∧ OwnB w' w.heap.size 5 v (bs.take n) ∧ Rdr w' g lo hi (bs.drop n) false ∧ Fr (only g) w w' := by
  obtain ⟨v, hb, ⟨A, cap, rfl, h1, h2, h3, h4⟩, h5, h6, h7⟩ := h
  unfold maxLen at h2
  have c0 := hb.cell 0
  have c1 := hb.cell 1
  have f0 := hb.frozen 0
  have f1 := hb.frozen 1
  simp at c0 c1
  have hur := Try.underlying106
  have hn0 : ¬ (n : Int) < 0 := by omega
  have hn1 : ¬ (bs.length : Int) < n := by omega
  have el : (bs.take n).length = n := by simp; omega
  have ed : (bs.drop n).length = bs.length - n := by simp
  have EL := Lib.hid el; have ED := Lib.hid ed
  clear h7 el ed
  have fin : ∀ (w1 w2 : World) (v' : Value), OwnB w1 w.heap.size 5 v' (bs.take n) → Blk w1 g 106 #[.slice A bs.length cap, .bool false] → RdB w1 lo hi A bs → Fr (only g) w w1 → g < w.heap.size →
      w2 = w1.setCell ⟨g, 0, none⟩ (.slice (if cap = n then A else A.map (·.add n)) (bs.length - n) (cap - n)) →
      ∃ v, Ending.returned v' = .returned v ∧ OwnB w2 w.heap.size 5 v (bs.take n) ∧ Rdr w2 g lo hi (bs.drop n) false ∧ Fr (only g) w w2 := by
    intro w1 w2 v' own hb r f hg e2
    subst e2
    have hf2 : Fr (only g) w1 (w1.setCell ⟨g, 0, none⟩ (.slice (if cap = n then A else A.map (·.add n)) (bs.length - n) (cap - n))) := (Fr.refl _ _).set_only 0 none _
    refine ⟨v', rfl, ?_, ⟨_, (hb.set 0 _).cast (by simp; rfl), ⟨_, cap - n, by rw [ED.out], by rw [ED.out]; omega, by unfold maxLen; omega, ?_, ?_⟩, h5, by rw [ED.out]; omega, fun h => by cases h⟩, f.set_only 0 none _⟩
    · rcases own.2 with h | ⟨g', cap', cur, e1, hb1, hg1, rest⟩
      · exact ⟨own.1, .inl h⟩
      · refine ⟨own.1, .inr ⟨g', cap', cur, e1, hb1, ?_, rest⟩⟩
        rw [Below.heap_setCell _ _ _ _ (by show g' ≠ g; omega)]
        exact hg1
    · intro h
      split at h
      · omega
      · have := h3 (by simpa using h); omega
    · exact (r.drop hn h1).fr hf2 (fun k hk1 hk2 e => by have e' : k = g := e; omega)
  have FIN := Lib.hid fin
  clear fin
  have hg := hb.lt
  by_cases hcn : cap = n
  · obtain rfl : n = cap := hcn.symm
    go_enter Try.func39, Try.ntmps39
    go_wp2_with fail
    refine (clone_calls lo hi _ (bs.take n) w ⟨A, _, by rw [EL.out], by rw [EL.out]; omega, by unfold maxLen; omega, h3, h4.take n⟩ (by rw [EL.out]; omega)).mono ?_
    rintro e w1 ⟨v', rfl, own, B1⟩
    have hb1 := hb.fr (Fr.of_below (S := nothing) B1) id
    have r1 := h4.fr (Fr.of_below (S := nothing) B1) (fun _ _ _ h => h)
    have F1 : Fr (only g) w w1 := Fr.of_below B1
    clear hb c0 c1 f0 f1 hur h4 B1
    have hb := hb1
    clear hb1
    have c0 := hb.cell 0
    have c1 := hb.cell 1
    have f0 := hb.frozen 0
    have f1 := hb.frozen 1
    simp at c0 c1
    have hur := Try.underlying106
    go_wp2
    go_ret
    exact FIN.out _ _ _ own hb r1 F1 hg (by simp [show bs.length - n = 0 by omega])
  · skip
    go_enter Try.func39, Try.ntmps39
    go_wp2_with fail
    refine (clone_calls lo hi _ (bs.take n) w ⟨A, _, by rw [EL.out], by rw [EL.out]; omega, by unfold maxLen; omega, h3, h4.take n⟩ (by rw [EL.out]; omega)).mono ?_
    rintro e w1 ⟨v', rfl, own, B1⟩
    have hb1 := hb.fr (Fr.of_below (S := nothing) B1) id
    have r1 := h4.fr (Fr.of_below (S := nothing) B1) (fun _ _ _ h => h)
    have F1 : Fr (only g) w w1 := Fr.of_below B1
    clear hb c0 c1 f0 f1 hur h4 B1
    have hb := hb1
    clear hb1
    have c0 := hb.cell 0
    have c1 := hb.cell 1
    have f0 := hb.frozen 0
    have f1 := hb.frozen 1
    simp at c0 c1
    have hur := Try.underlying106
    go_wp2
    go_ret
    exact FIN.out _ _ _ own hb r1 F1 hg (by rw [if_neg hcn])

set_option maxHeartbeats 1000000 in
theorem take_bad (g lo hi : Nat) (w : World) (h : Rdr w g lo hi [] true) :
    Calls Try.prog 39 #[.pointer (some ⟨g, 0, none⟩), .int .i64 0] w fun e w' => e = .returned (.slice none 0 0) ∧ w' = w := by
  obtain ⟨v, hb, ⟨A, cap, rfl, h1, h2, h3, h4⟩, h5, h6, h7⟩ := h
  unfold maxLen at h2
  simp only [List.length_nil] at hb
  have c0 := hb.cell 0
  have c1 := hb.cell 1
  have f0 := hb.frozen 0
  have f1 := hb.frozen 1
  simp at c0 c1
  have hur := Try.underlying106
  clear h7
  go_enter Try.func39, Try.ntmps39
  go_wp2
  go_ret
  exact ⟨rfl, rfl⟩

theorem take_calls (g lo hi : Nat) (bs : List Int) (bad : Bool) (n : Int) (w : World) (h : Rdr w g lo hi bs bad) :
    Calls Try.prog 39 #[.pointer (some ⟨g, 0, none⟩), .int .i64 n] w fun e w' => ∃ v, e = .returned v ∧ OwnB w' w.heap.size 5 v (tk bs n) ∧ Rdr w' g lo hi (lf bs n) (bd bs bad n) ∧ Fr (only g) w w' := by
  by_cases hn : n < 0 ∨ (bs.length : Int) < n
  · refine (take_out g lo hi bs bad n w h hn).mono fun e w' ⟨he, hr, hf⟩ => ⟨_, he, ?_, ?_, hf⟩
    · rw [tk, if_pos hn]; exact OwnB.nil _ _ _
    · rw [lf, bd, if_pos hn, if_pos hn]; exact hr
  · rw [tk, lf, bd, if_neg hn, if_neg hn, if_neg hn]
    cases bad
    · have e1 : ((n.toNat : Nat) : Int) = n := Int.toNat_of_nonneg (by omega)
      have := take_in g lo hi bs n.toNat w h (by omega)
      rw [e1] at this
      exact this
    · have hbs : bs = [] := h.choose_spec.2.2.2.2 rfl
      subst hbs
      obtain rfl : n = 0 := by simp at hn; omega
      refine (take_bad g lo hi w h).mono fun e w' ⟨he, hw⟩ => ?_
      subst hw
      exact ⟨_, he, OwnB.nil _ _ _, by simpa using h, Fr.refl _ _⟩

/-- A new reader: its bytes lie ahead of it, all in new memory. -/
def NewR (w : World) (xs : List Int) (e : Ending) (w' : World) : Prop :=
  ∃ g m, e = .returned (.pointer (some ⟨g, 0, none⟩)) ∧ w.heap.size ≤ m ∧ m ≤ g ∧ Rdr w' g w.heap.size m xs false ∧ Below w.heap.size w w'
theorem new_calls (lo hi : Nat) (v : Value) (xs : List Int) (w : World) (h : SlB w lo hi v xs) (hlen : xs.length ≤ 140737488355328) :
    Calls Try.prog 35 #[v] w (NewR w xs) := by
  have hur := Try.underlying106
  go_enter Try.func35, Try.ntmps35
  go_wp2_with fail
  refine (clone_calls lo hi v xs w h hlen).mono ?_
  rintro e w1 ⟨v', rfl, own, B1⟩
  have sl := SlB.of_own own
  have hs := B1.size
  obtain ⟨A, cap, rfl, h1, h2, h3, h4⟩ := sl
  go_wp2
  go_ret
  exact ⟨_, _, rfl, hs, Nat.le_refl _, ⟨_, Blk.new _ _ _, ⟨A, cap, rfl, h1, h2, h3, h4.fr ((Fr.refl nothing _).alloc _) (fun _ _ _ h => h)⟩, .inr (Nat.le_refl _), hlen, fun h => by cases h⟩, B1.alloc hs _⟩

theorem left_calls (g lo hi : Nat) (bs : List Int) (bad : Bool) (w : World) (h : Rdr w g lo hi bs bad) :
    Calls Try.prog 43 #[.pointer (some ⟨g, 0, none⟩)] w fun e w' => e = .returned (.int .i64 bs.length) ∧ w' = w := by
  obtain ⟨v, hb, ⟨A, cap, rfl, h1, h2, h3, h4⟩, h5, h6, h7⟩ := h
  have c0 := hb.cell 0
  have c1 := hb.cell 1
  have f0 := hb.frozen 0
  have f1 := hb.frozen 1
  simp at c0 c1
  have hur := Try.underlying106
  clear h3 h7
  go_enter Try.func43, Try.ntmps43
  go_wp2
  go_ret
  exact ⟨rfl, rfl⟩
theorem good_calls (g lo hi : Nat) (bs : List Int) (bad : Bool) (w : World) (h : Rdr w g lo hi bs bad) :
    Calls Try.prog 38 #[.pointer (some ⟨g, 0, none⟩)] w fun e w' => e = .returned (.bool (!bad)) ∧ w' = w := by
  obtain ⟨v, hb, ⟨A, cap, rfl, h1, h2, h3, h4⟩, h5, h6, h7⟩ := h
  have c0 := hb.cell 0
  have c1 := hb.cell 1
  have f0 := hb.frozen 0
  have f1 := hb.frozen 1
  simp at c0 c1
  have hur := Try.underlying106
  clear h3 h7
  go_enter Try.func38, Try.ntmps38
  go_wp2
  go_ret
  exact ⟨rfl, rfl⟩
/-- What End says: 40 bad, 41 bytes left, 0 else. -/
def endOf (bs : List Int) (bad : Bool) : Int := if bad then 40 else if 0 < bs.length then 41 else 0
theorem end_calls (g lo hi : Nat) (bs : List Int) (bad : Bool) (w : World) (h : Rdr w g lo hi bs bad) :
    Calls Try.prog 59 #[.pointer (some ⟨g, 0, none⟩)] w fun e w' => e = .returned (.int .i64 (endOf bs bad)) ∧ w' = w := by
  obtain ⟨v, hb, ⟨A, cap, rfl, h1, h2, h3, h4⟩, h5, h6, h7⟩ := h
  have c0 := hb.cell 0
  have c1 := hb.cell 1
  have f0 := hb.frozen 0
  have f1 := hb.frozen 1
  simp at c0 c1
  have hur := Try.underlying106
  clear h3 h7
  cases bad
  · by_cases hl : 0 < bs.length
    · rw [show endOf bs false = 41 by simp [endOf, hl]]
      go_enter Try.func59, Try.ntmps59
      go_wp2
      go_ret
      exact ⟨rfl, rfl⟩
    · rw [show endOf bs false = 0 by unfold endOf; rw [if_neg (by decide), if_neg hl]]
      go_enter Try.func59, Try.ntmps59
      go_wp2
      go_ret
      exact ⟨rfl, rfl⟩
  · rw [show endOf bs true = 40 by simp [endOf]]
    go_enter Try.func59, Try.ntmps59
    go_wp2
    go_ret
    exact ⟨rfl, rfl⟩

end Go.Proofs.Ytaifihoheieneaa.Octet
