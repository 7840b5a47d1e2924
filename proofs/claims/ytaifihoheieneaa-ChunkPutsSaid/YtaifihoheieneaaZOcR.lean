/- Contracts of octet.Reader. Conditions: each names its blocks and the bounds. -/
import Derived.Test.YtaifihoheieneaaZMem
import Derived.Laws.BitsAllLaws
import Derived.Deep.RegionLaw
import Derived.Lib.AppendZeros
namespace Go.Proofs.Ytaifihoheieneaa.Octet
open Go.RowKit Go.Proofs.Ytaifihoheieneaa.Mem
set_option linter.unusedVariables false
set_option linter.unusedSimpArgs false
attribute [local go_sem] max2_mx min2_mn max_two min_two

/-- A reader at block g: what is left, whether it is bad; its bytes lie in blocks from lo on, below hi. -/
def Rdr (w : World) (g lo hi : Nat) (bs : List Int) (bad : Bool) : Prop :=
  ∃ v, Blk w g 106 #[v, .bool bad] ∧ SlB w lo hi v bs ∧ (g < lo ∨ hi ≤ g) ∧ bs.length ≤ 140737488355328 ∧ (bad = true → bs = [])
theorem Rdr.fr {w w' : World} {g lo hi : Nat} {bs : List Int} {bad : Bool} {S : Nat → Prop} (h : Rdr w g lo hi bs bad) (f : Fr S w w') (hg : ¬ S g) (hs : ∀ k, lo ≤ k → k < hi → ¬ S k) : Rdr w' g lo hi bs bad := by
  obtain ⟨v, hb, h1, h2⟩ := h
  exact ⟨v, hb.fr f hg, h1.fr f hs, h2⟩
/-- What is left of bytes behind a take of n. -/
def tk (bs : List Int) (n : Int) : List Int := if n < 0 ∨ (bs.length : Int) < n then [] else bs.take n.toNat
def lf (bs : List Int) (n : Int) : List Int := if n < 0 ∨ (bs.length : Int) < n then [] else bs.drop n.toNat
def bd (bs : List Int) (bad : Bool) (n : Int) : Bool := if n < 0 ∨ (bs.length : Int) < n then true else bad

set_option maxHeartbeats 1000000 in
theorem take_out (g lo hi : Nat) (bs : List Int) (bad : Bool) (n : Int) (w : World) (h : Rdr w g lo hi bs bad) (hn : n < 0 ∨ (bs.length : Int) < n) :
    Calls Try.prog 39 #[.pointer (some ⟨g, 0, none⟩), .int .i64 n] w fun e w' => e = .returned (.slice none 0 0) ∧ Rdr w' g lo hi [] true ∧ Fr (only g) w w' := by
  obtain ⟨v, hb, ⟨A, cap, rfl, h1, h2, h3, h4⟩, h5, h6, h7⟩ := h
  unfold maxLen at h2
  have c0 := hb.cell 0
  have c1 := hb.cell 1
  have f0 := hb.frozen 0
  have f1 := hb.frozen 1
  simp at c0 c1
  have hur := Try.underlying106
  have fin : ∀ w', Blk w' g 106 #[.slice none 0 0, .bool true] → Fr (only g) w w' → Rdr w' g lo hi [] true ∧ Fr (only g) w w' :=
    fun w' hb' hf => ⟨⟨_, hb', ⟨none, 0, rfl, Nat.le_refl _, Nat.zero_le _, fun _ => rfl, .inl rfl⟩, h5, Nat.zero_le _, fun _ => rfl⟩, hf⟩
  have FIN := Lib.hid fin
  clear fin h3 h7
  rcases hn with hn | hn
  · go_enter Try.func39, Try.ntmps39
    go_wp2
    go_ret
    refine ⟨rfl, FIN.out _ ?_ ?_⟩
    · apply Blk.cast
      · (repeat (with_reducible first | exact hb | apply Blk.set | apply Blk.drewN | apply Blk.drew | apply Blk.alloc))
      · simp
    · (repeat (with_reducible first | exact Fr.refl _ _ | apply Fr.drewN | apply Fr.drew | apply Fr.alloc | apply Fr.set_only))
  · have hn0 : ¬ n < 0 := by omega
    go_enter Try.func39, Try.ntmps39
    go_wp2
    go_ret
    refine ⟨rfl, FIN.out _ ?_ ?_⟩
    · apply Blk.cast
      · (repeat (with_reducible first | exact hb | apply Blk.set | apply Blk.drewN | apply Blk.drew | apply Blk.alloc))
      · simp
    · (repeat (with_reducible first | exact Fr.refl _ _ | apply Fr.drewN | apply Fr.drew | apply Fr.alloc | apply Fr.set_only))

set_option maxHeartbeats 1000000 in
theorem take_in (g lo hi : Nat) (bs : List Int) (n : Nat) (w : World) (h : Rdr w g lo hi bs false) (hn : n ≤ bs.length) :
    Calls Try.prog 39 #[.pointer (some ⟨g, 0, none⟩), .int .i64 n] w fun e w' => ∃ v, e = .returned v ∧ OwnB w' w.heap.size 5 v (bs.take n) ∧ Rdr w' g lo hi (bs.drop n) false ∧ Fr (only g) w w' := by
  obtain ⟨v, hb, ⟨A, cap, rfl, h1, h2, h3, h4⟩, h5, h6, h7⟩ := h
  unfold maxLen at h2
  have c0 := hb.cell 0
  have c1 := hb.cell 1
  have f0 := hb.frozen 0
  have f1 := hb.frozen 1
  simp at c0 c1
  have hur := Try.underlying106
  have hn0 : ¬ (n : Int) < 0 := by omega
  have hn1 : ¬ (bs.length : Int) < n := by omega
  have el : (bs.take n).length = n := by simp; omega
  have ed : (bs.drop n).length = bs.length - n := by simp
  have EL := Lib.hid el; have ED := Lib.hid ed
  clear h7 el ed
  have fin : ∀ (w1 w2 : World) (v' : Value), OwnB w1 w.heap.size 5 v' (bs.take n) → Blk w1 g 106 #[.slice A bs.length cap, .bool false] → RdB w1 lo hi A bs → Fr (only g) w w1 → g < w.heap.size →
      w2 = w1.setCell ⟨g, 0, none⟩ (.slice (if cap = n then A else A.map (·.add n)) (bs.length - n) (cap - n)) →
      ∃ v, Ending.returned v' = .returned v ∧ OwnB w2 w.heap.size 5 v (bs.take n) ∧ Rdr w2 g lo hi (bs.drop n) false ∧ Fr (only g) w w2 := by
    intro w1 w2 v' own hb r f hg e2
    subst e2
    have hf2 : Fr (only g) w1 (w1.setCell ⟨g, 0, none⟩ (.slice (if cap = n then A else A.map (·.add n)) (bs.length - n) (cap - n))) := (Fr.refl _ _).set_only 0 none _
    refine ⟨v', rfl, ?_, ⟨_, (hb.set 0 _).cast (by simp; rfl), ⟨_, cap - n, by rw [ED.out], by rw [ED.out]; omega, by unfold maxLen; omega, ?_, ?_⟩, h5, by rw [ED.out]; omega, fun h => by cases h⟩, f.set_only 0 none _⟩
    · rcases own.2 with h | ⟨g', cap', cur, e1, hb1, hg1, rest⟩
      · exact ⟨own.1, .inl h⟩
      · refine ⟨own.1, .inr ⟨g', cap', cur, e1, hb1, ?_, rest⟩⟩
        rw [Below.heap_setCell _ _ _ _ (by show g' ≠ g; omega)]
        exact hg1
    · intro h
      split at h
      · omega
      · have := h3 (by simpa using h); omega
    · exact (r.drop hn h1).fr hf2 (fun k hk1 hk2 e => by have e' : k = g := e; omega)
  have FIN := Lib.hid fin
  clear fin
  have hg := hb.lt
  by_cases hcn : cap = n
  · obtain rfl : n = cap := hcn.symm
    go_enter Try.func39, Try.ntmps39
    go_wp2_with fail
    refine (clone_calls lo hi _ (bs.take n) w ⟨A, _, by rw [EL.out], by rw [EL.out]; omega, by unfold maxLen; omega, h3, h4.take n⟩ (by rw [EL.out]; omega)).mono ?_
    rintro e w1 ⟨v', rfl, own, B1⟩
    have hb1 := hb.fr (Fr.of_below (S := nothing) B1) id
    have r1 := h4.fr (Fr.of_below (S := nothing) B1) (fun _ _ _ h => h)
    have F1 : Fr (only g) w w1 := Fr.of_below B1
    clear hb c0 c1 f0 f1 hur h4 B1
    have hb := hb1
    clear hb1
    have c0 := hb.cell 0
    have c1 := hb.cell 1
    have f0 := hb.frozen 0
    have f1 := hb.frozen 1
    simp at c0 c1
    have hur := Try.underlying106
    go_wp2
    go_ret
    exact FIN.out _ _ _ own hb r1 F1 hg (by simp [show bs.length - n = 0 by omega])
  · skip
    go_enter Try.func39, Try.ntmps39
    go_wp2_with fail
    refine (clone_calls lo hi _ (bs.take n) w ⟨A, _, by rw [EL.out], by rw [EL.out]; omega, by unfold maxLen; omega, h3, h4.take n⟩ (by rw [EL.out]; omega)).mono ?_
    rintro e w1 ⟨v', rfl, own, B1⟩
    have hb1 := hb.fr (Fr.of_below (S := nothing) B1) id
    have r1 := h4.fr (Fr.of_below (S := nothing) B1) (fun _ _ _ h => h)
    have F1 : Fr (only g) w w1 := Fr.of_below B1
    clear hb c0 c1 f0 f1 hur h4 B1
    have hb := hb1
    clear hb1
    have c0 := hb.cell 0
    have c1 := hb.cell 1
    have f0 := hb.frozen 0
    have f1 := hb.frozen 1
    simp at c0 c1
    have hur := Try.underlying106
    go_wp2
    go_ret
    exact FIN.out _ _ _ own hb r1 F1 hg (by rw [if_neg hcn])

set_option maxHeartbeats 1000000 in
theorem take_bad (g lo hi : Nat) (w : World) (h : Rdr w g lo hi [] true) :
    Calls Try.prog 39 #[.pointer (some ⟨g, 0, none⟩), .int .i64 0] w fun e w' => e = .returned (.slice none 0 0) ∧ w' = w := by
  obtain ⟨v, hb, ⟨A, cap, rfl, h1, h2, h3, h4⟩, h5, h6, h7⟩ := h
  unfold maxLen at h2
  simp only [List.length_nil] at hb
  have c0 := hb.cell 0
  have c1 := hb.cell 1
  have f0 := hb.frozen 0
  have f1 := hb.frozen 1
  simp at c0 c1
  have hur := Try.underlying106
  clear h7
  go_enter Try.func39, Try.ntmps39
  go_wp2
  go_ret
  exact ⟨rfl, rfl⟩

theorem take_calls (g lo hi : Nat) (bs : List Int) (bad : Bool) (n : Int) (w : World) (h : Rdr w g lo hi bs bad) :
    Calls Try.prog 39 #[.pointer (some ⟨g, 0, none⟩), .int .i64 n] w fun e w' => ∃ v, e = .returned v ∧ OwnB w' w.heap.size 5 v (tk bs n) ∧ Rdr w' g lo hi (lf bs n) (bd bs bad n) ∧ Fr (only g) w w' := by
  by_cases hn : n < 0 ∨ (bs.length : Int) < n
  · refine (take_out g lo hi bs bad n w h hn).mono fun e w' ⟨he, hr, hf⟩ => ⟨_, he, ?_, ?_, hf⟩
    · rw [tk, if_pos hn]; exact OwnB.nil _ _ _
    · rw [lf, bd, if_pos hn, if_pos hn]; exact hr
  · rw [tk, lf, bd, if_neg hn, if_neg hn, if_neg hn]
    cases bad
    · have e1 : ((n.toNat : Nat) : Int) = n := Int.toNat_of_nonneg (by omega)
      have := take_in g lo hi bs n.toNat w h (by omega)
      rw [e1] at this
      exact this
    · have hbs : bs = [] := h.choose_spec.2.2.2.2 rfl
      subst hbs
      obtain rfl : n = 0 := by simp at hn; omega
      refine (take_bad g lo hi w h).mono fun e w' ⟨he, hw⟩ => ?_
      subst hw
      exact ⟨_, he, OwnB.nil _ _ _, by simpa using h, Fr.refl _ _⟩

/-- A new reader: its bytes lie ahead of it, all in new memory. -/
def NewR (w : World) (xs : List Int) (e : Ending) (w' : World) : Prop :=
  ∃ g m, e = .returned (.pointer (some ⟨g, 0, none⟩)) ∧ w.heap.size ≤ m ∧ m ≤ g ∧ Rdr w' g w.heap.size m xs false ∧ Below w.heap.size w w'
theorem new_calls (lo hi : Nat) (v : Value) (xs : List Int) (w : World) (h : SlB w lo hi v xs) (hlen : xs.length ≤ 140737488355328) :
    Calls Try.prog 35 #[v] w (NewR w xs) := by
  have hur := Try.underlying106
  go_enter Try.func35, Try.ntmps35
  go_wp2_with fail
  refine (clone_calls lo hi v xs w h hlen).mono ?_
  rintro e w1 ⟨v', rfl, own, B1⟩
  have sl := SlB.of_own own
  have hs := B1.size
  obtain ⟨A, cap, rfl, h1, h2, h3, h4⟩ := sl
  go_wp2
  go_ret
  exact ⟨_, _, rfl, hs, Nat.le_refl _, ⟨_, Blk.new _ _ _, ⟨A, cap, rfl, h1, h2, h3, h4.fr ((Fr.refl nothing _).alloc _) (fun _ _ _ h => h)⟩, .inr (Nat.le_refl _), hlen, fun h => by cases h⟩, B1.alloc hs _⟩

theorem left_calls (g lo hi : Nat) (bs : List Int) (bad : Bool) (w : World) (h : Rdr w g lo hi bs bad) :
    Calls Try.prog 43 #[.pointer (some ⟨g, 0, none⟩)] w fun e w' => e = .returned (.int .i64 bs.length) ∧ w' = w := by
  obtain ⟨v, hb, ⟨A, cap, rfl, h1, h2, h3, h4⟩, h5, h6, h7⟩ := h
  have c0 := hb.cell 0
  have c1 := hb.cell 1
  have f0 := hb.frozen 0
  have f1 := hb.frozen 1
  simp at c0 c1
  have hur := Try.underlying106
  clear h3 h7
  go_enter Try.func43, Try.ntmps43
  go_wp2
  go_ret
  exact ⟨rfl, rfl⟩
theorem good_calls (g lo hi : Nat) (bs : List Int) (bad : Bool) (w : World) (h : Rdr w g lo hi bs bad) :
    Calls Try.prog 38 #[.pointer (some ⟨g, 0, none⟩)] w fun e w' => e = .returned (.bool (!bad)) ∧ w' = w := by
  obtain ⟨v, hb, ⟨A, cap, rfl, h1, h2, h3, h4⟩, h5, h6, h7⟩ := h
  have c0 := hb.cell 0
  have c1 := hb.cell 1
  have f0 := hb.frozen 0
  have f1 := hb.frozen 1
  simp at c0 c1
  have hur := Try.underlying106
  clear h3 h7
  go_enter Try.func38, Try.ntmps38
  go_wp2
  go_ret
  exact ⟨rfl, rfl⟩
/-- What End says: 40 bad, 41 bytes left, 0 else. -/
def endOf (bs : List Int) (bad : Bool) : Int := if bad then 40 else if 0 < bs.length then 41 else 0
theorem end_calls (g lo hi : Nat) (bs : List Int) (bad : Bool) (w : World) (h : Rdr w g lo hi bs bad) :
    Calls Try.prog 59 #[.pointer (some ⟨g, 0, none⟩)] w fun e w' => e = .returned (.int .i64 (endOf bs bad)) ∧ w' = w := by
  obtain ⟨v, hb, ⟨A, cap, rfl, h1, h2, h3, h4⟩, h5, h6, h7⟩ := h
  have c0 := hb.cell 0
  have c1 := hb.cell 1
  have f0 := hb.frozen 0
  have f1 := hb.frozen 1
  simp at c0 c1
  have hur := Try.underlying106
  clear h3 h7
  cases bad
  · by_cases hl : 0 < bs.length
    · rw [show endOf bs false = 41 by simp [endOf, hl]]
      go_enter Try.func59, Try.ntmps59
      go_wp2
      go_ret
      exact ⟨rfl, rfl⟩
    · rw [show endOf bs false = 0 by unfold endOf; rw [if_neg (by decide), if_neg hl]]
      go_enter Try.func59, Try.ntmps59
      go_wp2
      go_ret
      exact ⟨rfl, rfl⟩
  · rw [show endOf bs true = 40 by simp [endOf]]
    go_enter Try.func59, Try.ntmps59
    go_wp2
    go_ret
    exact ⟨rfl, rfl⟩

end Go.Proofs.Ytaifihoheieneaa.Octet
namespace Go.Proofs.Ytaifihoheieneaa.Octet
open Go.RowKit Go.Proofs.Ytaifihoheieneaa.Mem
set_option linter.unusedVariables false
set_option linter.unusedSimpArgs false

/-- A number of bytes, the greatest first, of 32 bits. -/
def num (xs : List Int) : Int := xs.foldl (fun v x => (v * 256 + x) % 4294967296) 0
theorem num_range (xs : List Int) : 0 ≤ num xs ∧ num xs < 4294967296 := by
  unfold num
  have : ∀ (l : List Int) (a : Int), 0 ≤ a → a < 4294967296 → 0 ≤ l.foldl (fun v x => (v * 256 + x) % 4294967296) a ∧ l.foldl (fun v x => (v * 256 + x) % 4294967296) a < 4294967296 := by
    intro l
    induction l with
    | nil => intro a h0 h1; exact ⟨h0, h1⟩
    | cons x l ih => intro a h0 h1; exact ih _ (by show 0 ≤ (a * 256 + x) % 4294967296; omega) (by show (a * 256 + x) % 4294967296 < 4294967296; omega)
  exact this xs 0 (by omega) (by omega)
theorem num_snoc (xs : List Int) (x : Int) : num (xs ++ [x]) = (num xs * 256 + x) % 4294967296 := by simp [num, List.foldl_append]
theorem num_take (xs : List Int) (k : Nat) (h : k < xs.length) : num (xs.take (k + 1)) = (num (xs.take k) * 256 + xs[k]) % 4294967296 := by
  rw [List.take_succ_eq_append_getElem h, num_snoc]

theorem or_byte (v x : Int) (v0 : 0 ≤ v) (x0 : 0 ≤ x) (x1 : x < 256) : bits .or .u32 (v * 256 % 4294967296) x = (v * 256 + x) % 4294967296 := by
  rw [u32_or _ _ (by omega) (by omega) x0 (by omega)]
  obtain ⟨q, hq⟩ : ∃ q : Nat, (v * 256 % 4294967296).toNat = 2 ^ 8 * q ∧ q < 16777216 := ⟨(v % 16777216).toNat, by omega, by omega⟩
  obtain ⟨m, hm, hm2⟩ : ∃ m : Nat, x.toNat = m ∧ m < 2 ^ 8 := ⟨x.toNat, rfl, by omega⟩
  rw [hq.1, hm, ← Nat.two_pow_add_eq_or_of_lt hm2]
  omega

def NumP (w : World) (g lo hi : Nat) (bs : List Int) (bad : Bool) (n : Int) (e : Ending) (w' : World) : Prop :=
  e = .returned (.int .u32 (num (tk bs n))) ∧ Rdr w' g lo hi (lf bs n) (bd bs bad n) ∧ Fr (only g) w w'
set_option maxHeartbeats 1000000 in
theorem number_calls (g lo hi : Nat) (bs : List Int) (bad : Bool) (n : Int) (w : World) (h : Rdr w g lo hi bs bad) (hbs : IsB bs) (hg : g < w.heap.size) :
    Calls Try.prog 52 #[.pointer (some ⟨g, 0, none⟩), .int .i64 n] w (NumP w g lo hi bs bad n) := by
  go_enter Try.func52, Try.ntmps52
  go_wp2_with fail
  refine (take_calls g lo hi bs bad n w h).mono ?_
  rintro e w1 ⟨v, rfl, own, r, f⟩
  obtain ⟨A, cap, rfl, h1, h2, h3, h4⟩ := SlB.of_own own
  unfold maxLen at h2
  have hb : IsB (tk bs n) := by
    unfold tk
    split
    · intro x hx; simp at hx
    · exact fun x hx => hbs x (List.mem_of_mem_take hx)
  generalize hT : tk bs n = ts at h1 h2 h4 hb
  have HT := Lib.hid hT
  clear h3 own
  clear hT
  go_wp2
  go_loop [5, 12] (fun v i => ∃ k : Nat, k ≤ ts.length ∧ i = .int .i64 k ∧ v = .int .u32 (num (ts.take k))) (fun _ i => ts.length - (intOf i).toNat)
  case atStart => exact ⟨0, Nat.zero_le _, rfl, rfl⟩
  case round =>
    obtain ⟨k, hk, rfl, rfl⟩ := hrel
    by_cases hlt : k < ts.length
    · obtain ⟨ad, rfl, hc⟩ := h4.at_ k hlt
      have hx := hb ts[k] (List.getElem_mem hlt)
      have hv := num_range (ts.take k)
      have HS := Lib.hid (num_take ts k hlt)
      go_wp2
      go_round
      case rel => exact ⟨k + 1, by omega, by go_num, by rw [HS.out, or_byte _ _ hv.1 hx.1 hx.2]⟩
      case measure => simp [intOf]; omega
    · obtain rfl : k = ts.length := by omega
      go_wp2
      go_ret
      exact ⟨by rw [HT.out]; rfl, r, f⟩

theorem num_1 (xs : List Int) (h : xs.length ≤ 1) (hb : IsB xs) : num xs < 256 := by
  match xs, h with
  | [], _ => decide
  | [x], _ =>
    have hx := hb x (by simp)
    show (0 * 256 + x) % 4294967296 < 256
    omega
theorem num_2 (xs : List Int) (h : xs.length ≤ 2) (hb : IsB xs) : num xs < 65536 := by
  match xs, h with
  | [], _ => decide
  | [x], _ =>
    have hx := hb x (by simp)
    show (0 * 256 + x) % 4294967296 < 65536
    omega
  | [x, y], _ =>
    have hx := hb x (by simp)
    have hy := hb y (by simp)
    show (((0 * 256 + x) % 4294967296) * 256 + y) % 4294967296 < 65536
    omega
def Num1P (w : World) (g lo hi : Nat) (bs : List Int) (bad : Bool) (k : IntKind) (n : Int) (e : Ending) (w' : World) : Prop :=
  e = .returned (.int k (num (tk bs n))) ∧ Rdr w' g lo hi (lf bs n) (bd bs bad n) ∧ Fr (only g) w w'
theorem isb_tk {bs : List Int} (h : IsB bs) (n : Int) : IsB (tk bs n) := by
  unfold tk
  split
  · intro x hx; simp at hx
  · exact fun x hx => h x (List.mem_of_mem_take hx)
theorem isb_lf {bs : List Int} (h : IsB bs) (n : Int) : IsB (lf bs n) := by
  unfold lf
  split
  · intro x hx; simp at hx
  · exact fun x hx => h x (List.mem_of_mem_drop hx)
theorem tk_len (bs : List Int) (n : Nat) : (tk bs n).length ≤ n := by
  unfold tk
  split
  · simp
  · simp; omega
theorem u8_calls (g lo hi : Nat) (bs : List Int) (bad : Bool) (w : World) (h : Rdr w g lo hi bs bad) (hbs : IsB bs) (hg : g < w.heap.size) :
    Calls Try.prog 36 #[.pointer (some ⟨g, 0, none⟩)] w (Num1P w g lo hi bs bad .u8 1) := by
  have hr := num_range (tk bs 1)
  have hl2 := num_1 (tk bs 1) (tk_len bs 1) (isb_tk hbs 1)
  go_enter Try.func36, Try.ntmps36
  go_wp2_with fail
  refine (number_calls g lo hi bs bad 1 w h hbs hg).mono ?_
  rintro e w1 ⟨rfl, r, f⟩
  go_wp2
  go_ret
  exact ⟨by first | rfl | (congr 2; simp [IntKind.wrap, IntKind.bits, IntKind.signed]; omega), r, f⟩
theorem u16_calls (g lo hi : Nat) (bs : List Int) (bad : Bool) (w : World) (h : Rdr w g lo hi bs bad) (hbs : IsB bs) (hg : g < w.heap.size) :
    Calls Try.prog 37 #[.pointer (some ⟨g, 0, none⟩)] w (Num1P w g lo hi bs bad .u16 2) := by
  have hr := num_range (tk bs 2)
  have hl2 := num_2 (tk bs 2) (tk_len bs 2) (isb_tk hbs 2)
  go_enter Try.func37, Try.ntmps37
  go_wp2_with fail
  refine (number_calls g lo hi bs bad 2 w h hbs hg).mono ?_
  rintro e w1 ⟨rfl, r, f⟩
  go_wp2
  go_ret
  exact ⟨by first | rfl | (congr 2; simp [IntKind.wrap, IntKind.bits, IntKind.signed]; omega), r, f⟩
theorem u32_calls (g lo hi : Nat) (bs : List Int) (bad : Bool) (w : World) (h : Rdr w g lo hi bs bad) (hbs : IsB bs) (hg : g < w.heap.size) :
    Calls Try.prog 55 #[.pointer (some ⟨g, 0, none⟩)] w (Num1P w g lo hi bs bad .u32 4) := by
  go_enter Try.func55, Try.ntmps55
  go_wp2_with fail
  refine (number_calls g lo hi bs bad 4 w h hbs hg).mono ?_
  rintro e w1 ⟨rfl, r, f⟩
  go_wp2
  go_ret
  exact ⟨rfl, r, f⟩
end Go.Proofs.Ytaifihoheieneaa.Octet

namespace Go.Proofs.YtaifihoheieneaaW
end Go.Proofs.YtaifihoheieneaaW
namespace Go.Proofs.Ytaifihoheieneaa.Mem
open Go.RowKit
set_option linter.unusedVariables false
end Go.Proofs.Ytaifihoheieneaa.Mem
namespace Go.Proofs.Ytaifihoheieneaa.Octet
open Go.RowKit Go.Proofs.Ytaifihoheieneaa.Mem Go.Proofs.YtaifihoheieneaaW
set_option linter.unusedVariables false
set_option linter.unusedSimpArgs false

/-- A writer at block g: its one field, a row of its own. -/
def Wtr (w : World) (g : Nat) (v : Value) (bs : List Int) : Prop := Blk w g 60 #[v] ∧ OwnB w 0 5 v bs
/-- What a writer's method may change. -/
def WS (g : Nat) (v : Value) : Nat → Prop := fun k => k = g ∨ v.ownBlock = some k
theorem Wtr.fr {w w' : World} {g : Nat} {v : Value} {bs : List Int} {S : Nat → Prop} (h : Wtr w g v bs) (f : Fr S w w') (hg : ¬ S g) (hs : ∀ k, v.ownBlock = some k → ¬ S k) : Wtr w' g v bs :=
  ⟨h.1.fr f hg, h.2.fr f hs⟩

def PutP (w : World) (g : Nat) (v : Value) (bs xs : List Int) (e : Ending) (w' : World) : Prop :=
  e = .returned (.tuple #[]) ∧ ∃ v', Wtr w' g v' (bs ++ xs) ∧ At w w' v v' ∧ Fr (WS g v) w w'
/-- A store of the new row into the writer's field. -/
theorem put_end {w w1 : World} {g : Nat} {v v1 : Value} {bs : List Int} (h : Wtr w g v bs) (B : Below w.heap.size w w1 ∨ True) {zs : List Int} (own : OwnB w1 0 5 v1 zs) (f : Fr (WS g v) w w1) (hat : At w w1 v v1) (hb : Blk w1 g 60 #[v]) :
    ∃ v', Wtr (w1.setCell ⟨g, 0, none⟩ v1) g v' zs ∧ At w (w1.setCell ⟨g, 0, none⟩ v1) v v' ∧ Fr (WS g v) w (w1.setCell ⟨g, 0, none⟩ v1) := by
  have hne := own.ne hb (by decide)
  refine ⟨v1, ⟨(hb.set 0 v1).cast (by simp), own.fr ((Fr.refl (only g) w1).set_only 0 none v1) (fun k hk e => hne (by have e' : k = g := e; rw [← e']; exact hk))⟩, ?_, f.setCell (p := ⟨g, 0, none⟩) (.inl (.inl rfl)) v1⟩
  rcases hat with hat | ⟨b, h1, h2, h3⟩
  · exact .inl hat
  · exact .inr ⟨b, h1, h2, by simpa [World.setCell] using h3⟩

theorem put_mid (g : Nat) (v v' : Value) (bs zs : List Int) (w w' : World) (h : Wtr w g v bs) (hown : w'.ownsRow 0 5 1 v' zs.length (byts zs)) (hg : w.grownBy w' v.ownBlock)
    (hat : v'.ownBlock = v.ownBlock ∨ v'.ownBlock = some w.heap.size) :
    Blk w' g 60 #[v] ∧ OwnB w' 0 5 v' zs ∧ Fr (WS g v) w w' ∧ At w w' v v' ∧ ∃ A cap, v' = .slice A zs.length cap := by
  have hne := OwnB.ne (e := 5) h.2 h.1 (by decide)
  obtain ⟨A, cap, e, _, _⟩ := OwnB.slice (e := 5) hown
  refine ⟨h.1.fr (S := fun k => v.ownBlock = some k) ((Fr.refl _ w).grown hg fun k hk => .inl hk) (fun hk => hne hk), hown, (Fr.refl _ w).grown hg fun k hk => .inl (.inr hk), ?_, A, cap, e⟩
  rcases hat with e | e
  · exact .inl e
  · exact .inr ⟨_, e, Nat.le_refl _, OwnB.lt (e := 5) hown _ e⟩

set_option maxHeartbeats 1000000 in
theorem put_calls (g lo hi : Nat) (v x : Value) (bs xs : List Int) (w : World) (h : Wtr w g v bs) (hx : SlB w lo hi x xs) (hl : bs.length + xs.length ≤ 140737488355328) :
    Calls Try.prog 28 #[.pointer (some ⟨g, 0, none⟩), x] w (PutP w g v bs xs) := by
  obtain ⟨A, cap, rfl, h1, h2, h3, h4⟩ := hx
  obtain ⟨i0, hi0, hz0, hz1, hz2⟩ := info_parts info_b
  have hb := h.1
  have own := h.2
  have c0 := hb.cell 0
  have f0 := hb.frozen 0
  simp at c0
  have huw := Try.underlying60
  clear h3
  go_enter Try.func28, Try.ntmps28
  have hlt := hb.lt
  have hne := OwnB.ne (e := 5) own hb (by decide)
  go_wp2_with (at_builtin; refine wpList_append_b _ rfl (.tmp 8) (.tmp 9) _ rfl 0 5 i0 Try.underlying29 hi0 hz0 hz1 hz2 v bs rfl own lo hi A _ cap xs rfl rfl h4 hl (Nat.zero_le _) ?_; intro v' w' hown hg hat; obtain ⟨hb', own', f, hat', A', cap', ev⟩ := put_mid g v v' bs _ w w' h hown hg hat; clear hown hg hat; subst ev; have c1 := hb'.cell 0; have f1 := hb'.frozen 0; have l1 := hb'.lt; simp at c1)
  have fin := put_end h (.inr trivial) own' f hat' hb'
  rw [List.length_append] at fin
  first | go_end0 | ((try simp only [Exit.inBlock, Exit.then]); refine bodyPost_ret (results_none rfl _ _ _) rfl ?_)
  exact ⟨rfl, fin⟩

/-- Behind a literal of bytes. -/
theorem lit_own {g : Nat} {v : Value} {bs ys : List Int} {w : World} (h : Wtr w g v bs) (cs : Array Value) (hcs : ∀ i (hi : i < ys.length), cs[i]? = some (.int .u8 ys[i])) :
    Wtr (w.alloc (.cells cs 5 (0, 0))) g v bs ∧ RdB (w.alloc (.cells cs 5 (0, 0))) 0 (w.heap.size + 1) (some ⟨w.heap.size, 0, none⟩) ys := by
  refine ⟨h.fr (S := nothing) ((Fr.refl _ w).alloc _) (fun h => h) (fun _ _ h => h), .inr ⟨_, rfl, Nat.zero_le _, Nat.lt_succ_self _, fun i hi => ?_⟩⟩
  have hc := (Blk.new w cs 5).cell i
  rw [hcs i hi] at hc
  rw [← hc]
  by_cases h0 : i = 0
  · subst h0; rfl
  · simp [Addr.add, h0]
theorem lit_mid (g : Nat) (v v' : Value) (bs zs : List Int) (w : World) (o : Obj) (w' : World) (h : Wtr w g v bs) (h1 : Wtr (w.alloc o) g v bs) (hown : w'.ownsRow 0 5 1 v' zs.length (byts zs)) (hg : (w.alloc o).grownBy w' v.ownBlock)
    (hat : v'.ownBlock = v.ownBlock ∨ v'.ownBlock = some (w.alloc o).heap.size) :
    Blk w' g 60 #[v] ∧ OwnB w' 0 5 v' zs ∧ Fr (WS g v) w w' ∧ At w w' v v' ∧ ∃ A cap, v' = .slice A zs.length cap := by
  obtain ⟨a1, a2, a3, a4, a5⟩ := put_mid g v v' bs zs _ w' h1 hown hg hat
  have fa : Fr (WS g v) w (w.alloc o) := (Fr.refl _ w).alloc o
  refine ⟨a1, a2, fa.trans a3 (fun _ _ h => h), ?_, a5⟩
  rcases a4 with e | ⟨b, e1, e2, e3⟩
  · exact .inl e
  · exact .inr ⟨b, e1, Nat.le_trans fa.size e2, e3⟩

set_option maxHeartbeats 1000000 in
theorem wu8_calls (g : Nat) (v : Value) (bs : List Int) (x : Int) (w : World) (h : Wtr w g v bs) (hl : bs.length + 1 ≤ 140737488355328) :
    Calls Try.prog 25 #[.pointer (some ⟨g, 0, none⟩), .int .u8 x] w (PutP w g v bs [x]) := by
  obtain ⟨i0, hi0, hz0, hz1, hz2⟩ := info_parts info_b
  have hb := h.1
  have c0 := hb.cell 0
  have f0 := hb.frozen 0
  simp at c0
  have huw := Try.underlying60
  have hlt := hb.lt
  obtain ⟨h', rd⟩ := lit_own (ys := [x]) h #[.int .u8 x] (by intro i hi; match i, hi with | 0, _ => rfl)
  have own := h'.2
  go_enter Try.func25, Try.ntmps25
  go_wp2_with (at_builtin; refine wpList_append_b _ rfl (.tmp 8) (.tmp 10) _ rfl 0 5 i0 Try.underlying29 hi0 hz0 hz1 hz2 v bs rfl own 0 (w.heap.size + 1) _ _ 1 [x] rfl rfl rd hl (Nat.zero_le _) ?_; intro v' w' hown hg hat; obtain ⟨hb', own', f, hat', A', cap', ev⟩ := lit_mid g v v' bs _ w _ w' h h' hown hg hat; clear hown hg hat; subst ev; have c1 := hb'.cell 0; have f1 := hb'.frozen 0; have l1 := hb'.lt; simp at c1)
  have fin := put_end h (.inr trivial) own' f hat' hb'
  rw [List.length_append] at fin
  first | go_end0 | ((try simp only [Exit.inBlock, Exit.then]); refine bodyPost_ret (results_none rfl _ _ _) rfl ?_)
  exact ⟨rfl, fin⟩

set_option maxHeartbeats 1000000 in
theorem wu16_calls (g : Nat) (v : Value) (bs : List Int) (x : Int) (w : World) (h : Wtr w g v bs) (hl : bs.length + 2 ≤ 140737488355328) :
    Calls Try.prog 27 #[.pointer (some ⟨g, 0, none⟩), .int .u16 x] w (PutP w g v bs [x / 256 % 256, x % 256]) := by
  obtain ⟨i0, hi0, hz0, hz1, hz2⟩ := info_parts info_b
  have hb := h.1
  have c0 := hb.cell 0
  have f0 := hb.frozen 0
  simp at c0
  have huw := Try.underlying60
  have hlt := hb.lt
  obtain ⟨h', rd⟩ := lit_own (ys := [x / 256 % 256, x % 256]) h #[.int .u8 (x / 256 % 256), .int .u8 (x % 256)] (by intro i hi; match i, hi with | 0, _ => rfl | 1, _ => rfl)
  have own := h'.2
  go_enter Try.func27, Try.ntmps27
  go_wp2_with (at_builtin; refine wpList_append_b _ rfl (.tmp 8) (.tmp 14) _ rfl 0 5 i0 Try.underlying29 hi0 hz0 hz1 hz2 v bs rfl own 0 (w.heap.size + 1) _ _ 2 [x / 256 % 256, x % 256] rfl rfl rd hl (Nat.zero_le _) ?_; intro v' w' hown hg hat; obtain ⟨hb', own', f, hat', A', cap', ev⟩ := lit_mid g v v' bs _ w _ w' h h' hown hg hat; clear hown hg hat; subst ev; have c1 := hb'.cell 0; have f1 := hb'.frozen 0; have l1 := hb'.lt; simp at c1)
  have fin := put_end h (.inr trivial) own' f hat' hb'
  rw [List.length_append] at fin
  first | go_end0 | ((try simp only [Exit.inBlock, Exit.then]); refine bodyPost_ret (results_none rfl _ _ _) rfl ?_)
  exact ⟨rfl, fin⟩

/-- Two pieces put one behind the other. -/
theorem put_two {w w1 w2 : World} {g : Nat} {v v1 v2 : Value} {bs xs ys : List Int} (h : Wtr w g v bs) (hat : At w w1 v v1) (f : Fr (WS g v) w w1) (h2 : Wtr w2 g v2 (bs ++ xs ++ ys)) (hat2 : At w1 w2 v1 v2) (f2 : Fr (WS g v1) w1 w2) :
    ∃ v', Wtr w2 g v' (bs ++ (xs ++ ys)) ∧ At w w2 v v' ∧ Fr (WS g v) w w2 := by
  refine ⟨v2, by rw [← List.append_assoc]; exact h2, ?_, f.trans f2 (fun k hk hS => ?_)⟩
  · rcases hat2 with e | ⟨b, e, e2, e3⟩
    · rcases hat with e' | ⟨b', e1', e2', e3'⟩
      · exact .inl (e.trans e')
      · exact .inr ⟨b', e.trans e1', e2', Nat.lt_of_lt_of_le e3' f2.size⟩
    · exact .inr ⟨b, e, Nat.le_trans f.size e2, e3⟩
  · rcases hS with e | e
    · exact .inl e
    · rcases hat with e' | ⟨b', e1', e2', _⟩
      · exact .inr (e' ▸ e)
      · rw [e1'] at e; injection e with e; omega

set_option maxHeartbeats 1000000 in
theorem wu32_calls (g : Nat) (v : Value) (bs : List Int) (x : Int) (w : World) (h : Wtr w g v bs) (hl : bs.length + 4 ≤ 140737488355328) :
    Calls Try.prog 47 #[.pointer (some ⟨g, 0, none⟩), .int .u32 x] w (PutP w g v bs [x / 16777216 % 256, x / 65536 % 256, x / 256 % 256, x % 256]) := by
  go_enter Try.func47, Try.ntmps47
  go_wp2_with fail
  refine (wu16_calls g v bs _ w h (by omega)).mono ?_
  rintro e w1 ⟨rfl, v1, h1, hat1, f1⟩
  go_wp2_with fail
  refine (wu16_calls g v1 _ _ w1 h1 (by simp; omega)).mono ?_
  rintro e w2 ⟨rfl, v2, h2, hat2, f2⟩
  have fin := put_two h hat1 f1 h2 hat2 f2
  go_wp2
  first | go_end0 | ((try simp only [Exit.inBlock, Exit.then]); refine bodyPost_ret (results_none rfl _ _ _) rfl ?_)
  refine ⟨rfl, ?_⟩
  have e1 : [x / 16777216 % 256, x / 65536 % 256, x / 256 % 256, x % 256] = [x / 65536 % 65536 / 256 % 256, x / 65536 % 65536 % 256] ++ [x % 65536 / 256 % 256, x % 65536 % 256] := by
    simp; omega
  rw [e1]
  exact fin

set_option maxHeartbeats 1000000 in
theorem wlen_calls (g : Nat) (v : Value) (bs : List Int) (w : World) (h : Wtr w g v bs) :
    Calls Try.prog 24 #[.pointer (some ⟨g, 0, none⟩)] w (fun e w' => e = .returned (.int .i64 bs.length) ∧ w' = w) := by
  obtain ⟨A, cap, rfl, hc, _⟩ := OwnB.slice h.2
  have c0 := h.1.cell 0
  simp at c0
  have huw := Try.underlying60
  go_enter Try.func24, Try.ntmps24
  go_wp2
  go_ret
  exact ⟨rfl, rfl⟩
theorem OwnB.slb {w : World} {base : Nat} {v : Value} {xs : List Int} (h : OwnB w base 5 v xs) : SlB w base w.heap.size v xs := SlB.of_own h
set_option maxHeartbeats 1000000 in
theorem wout_calls (g : Nat) (v : Value) (bs : List Int) (w : World) (h : Wtr w g v bs) (hl : bs.length ≤ 140737488355328) :
    Calls Try.prog 29 #[.pointer (some ⟨g, 0, none⟩)] w (fun e w' => ∃ v', e = .returned v' ∧ OwnB w' w.heap.size 5 v' bs ∧ Below w.heap.size w w') := by
  have sl := SlB.of_own h.2
  obtain ⟨A, cap, rfl, hc, _⟩ := OwnB.slice h.2
  have c0 := h.1.cell 0
  simp at c0
  have huw := Try.underlying60
  go_enter Try.func29, Try.ntmps29
  go_wp2_with fail
  refine (clone_calls _ _ _ bs w sl hl).mono ?_
  rintro e w1 ⟨v', rfl, o1, B1⟩
  obtain ⟨A', cap', rfl, _, _⟩ := OwnB.slice o1
  go_wp2
  go_ret
  exact ⟨_, rfl, o1, B1⟩
theorem step_run {P : Program} {ops : Array Oper} {o : Oper} {a : Act} {w : World} {K : Act → World → Prop} {Q : Exit → Act → World → Prop} {E : Prop}
    (hg : o.guard = none) (s x : Operand) (t tn : TypeId) (hop : o.op = Op.call { callee := Callee.builtin Builtin.append, args := #[s, x], argTypes := #[t, tn] }) (vs vx : Value) (hs : a.eval s = vs) (hx : a.eval x = vx)
    (v' : Value) (w' : World) (hr : (Builtin.append_ #[t, tn] o.type #[vs, vx]).run P w = .ok v' w') (hK : K (a.put o.dst v') w') :
    if Region.wanted o (yielded ops a.tmps) = true then Oper.wp P o a w K Q else E := by
  have hw : Region.wanted o (yielded ops a.tmps) = true := by simp [Region.wanted, hg]
  rw [if_pos hw]
  exact Lib.wp_append_run w s x t tn hop vs vx hs hx v' w' hr hK
theorem zeros_b (m : Nat) : (Builtin.zeroCells (Value.int .u8 0).cells m).toList = byts (List.replicate m 0) := by
  apply List.ext_getElem?
  intro i
  by_cases h : i < m <;> simp [Builtin.zeroCells, byts, Value.cells, List.getElem?_map, List.getElem?_replicate, List.getElem?_range, h, Nat.mod_one]
theorem run_zeros (base : Nat) (v : Value) (bs : List Int) (m : Nat) (w : World) (own : OwnB w base 5 v bs) (hl : bs.length + m ≤ 140737488355328) (hbase : base ≤ w.heap.size) :
    ∃ v' w', (Builtin.append_ #[29, 3] 29 #[v, .int .i64 m]).run Try.prog w = .ok v' w' ∧ w'.ownsRow base 5 1 v' (bs ++ List.replicate m 0).length (byts (bs ++ List.replicate m 0)) ∧ w.grownBy w' v.ownBlock ∧
      (v'.ownBlock = v.ownBlock ∨ v'.ownBlock = some w.heap.size) := by
  obtain ⟨i0, hi0, hz0, hz1, hz2⟩ := info_parts info_b
  obtain ⟨v', w', h1, h2, h3, h4⟩ := Zer.run_append_zeros (P := Try.prog) w base 29 3 29 5 i0 (.int .u8 0) 1 1 Try.underlying29 Try.underlying3 hi0 hz0 hz1 hz2 rfl (by decide) (by decide) v bs.length (byts bs) own .i64 m
    (by rw [zeros_b]; exact byts_one _) (by omega) hbase
  refine ⟨v', w', h1, ?_, h3, h4⟩
  rw [zeros_b] at h2
  have e1 : (bs ++ List.replicate m 0).length = bs.length + m := by simp
  rw [e1]
  simpa [byts] using h2

set_option maxHeartbeats 1000000 in
set_option maxRecDepth 100000 in
theorem wpad_calls (g : Nat) (v : Value) (bs : List Int) (n : Nat) (w : World) (h : Wtr w g v bs) (hl : bs.length + n ≤ 140737488355328) (hn : 0 < n) :
    Calls Try.prog 30 #[.pointer (some ⟨g, 0, none⟩), .int .i64 n] w (PutP w g v bs (List.replicate ((n - bs.length % n) % n) 0)) := by
  have hb := h.1
  have own := h.2
  have c0 := hb.cell 0
  have f0 := hb.frozen 0
  simp at c0
  have huw := Try.underlying60
  obtain ⟨A, cap, rfl, hc, _⟩ := OwnB.slice h.2
  have hn0 : ¬ (n : Int) ≤ 0 := by omega
  have hn1 : (0 : Int) < n := by omega
  have hn2 : ¬ (n : Int) = 0 := by omega
  by_cases hm : bs.length % n = 0
  · have hmod : (bs.length : Int) % n = 0 := by omega
    go_enter Try.func30, Try.ntmps30
    go_wp2
    first | go_end0 | ((try simp only [Exit.inBlock, Exit.then]); refine bodyPost_ret (results_none rfl _ _ _) rfl ?_)
    refine ⟨rfl, _, ?_, .inl rfl, Fr.refl _ _⟩
    simpa using h
  · have hn3 : ¬ n = 0 := by omega
    have hmod : 0 < (bs.length : Int) % n := by omega
    have ht : (bs.length : Int).tmod n = (bs.length : Int) % n := Int.tmod_eq_emod_of_nonneg (by omega)
    have hmod0 : 0 ≤ (bs.length : Int) % n := Int.emod_nonneg _ hn2
    have hlt := Nat.mod_lt bs.length hn
    have em : ((n - bs.length % n : Nat) : Int) = (n : Int) - (bs.length : Int) % n := by omega
    have eq : (n - bs.length % n) % n = n - bs.length % n := Nat.mod_eq_of_lt (by omega)
    rw [eq]
    have hwr := Lib.hid (show IntKind.i64.wrap ((n : Int) - (bs.length : Int) % n) = (n : Int) - (bs.length : Int) % n by rw [IntKind.wrap_i64]; omega)
    obtain ⟨m, hm'⟩ : ∃ m, m = n - bs.length % n := ⟨_, rfl⟩
    rw [← hm'] at em ⊢
    obtain ⟨v', w', hrun, hown, hg, hat⟩ := run_zeros 0 _ bs m w.drew own (by omega) (Nat.zero_le _)
    rw [em] at hrun
    have h' : Wtr w.drew g (.slice A bs.length cap) bs := h
    obtain ⟨hb', own', f, hat', A', cap', ev⟩ := put_mid g _ v' bs _ w.drew w' h' hown hg hat
    subst ev
    have c1 := hb'.cell 0
    have f1 := hb'.frozen 0
    have l1 := hb'.lt
    simp at c1
    have fin := Lib.hid (put_end h' (.inr trivial) own' f hat' hb')
    have HR := Lib.hid hrun
    clear hrun hown hg hat hb' own' f hat' em
    go_enter Try.func30, Try.ntmps30
    go_wp2_with fail
    go_region_law (refine step_run rfl (.tmp 20) (.tmp 29) _ _ rfl (.slice A bs.length cap) (.int .i64 ((n : Int) - (bs.length : Int) % n)) (by simp [Act.eval, Act.put]) (by simp [Act.eval, Act.put, hwr.out]) _ _ HR.out ?_)
    all_goals (
      first | go_end0 | ((try simp only [Exit.inBlock, Exit.then]); refine bodyPost_ret (results_none rfl _ _ _) rfl ?_)
      obtain ⟨v1, a1, a2, a3⟩ := fin.out
      subst hm'
      rw [List.length_append, List.length_replicate] at a1 a2 a3
      exact ⟨rfl, v1, a1, a2, ⟨a3.os, a3.tape, a3.output, a3.size, a3.block⟩⟩)
end Go.Proofs.Ytaifihoheieneaa.Octet

namespace Go.Proofs.Ytaifihoheieneaa.Octet
open Go.RowKit Go.Proofs.Ytaifihoheieneaa.Mem
set_option linter.unusedVariables false
set_option linter.unusedSimpArgs false

/-- A writer, all of whose memory lies from base on. -/
def WtrN (w : World) (base g : Nat) (bs : List Int) : Prop := ∃ v, Wtr w g v bs ∧ base ≤ g ∧ ∀ k, v.ownBlock = some k → base ≤ k
theorem WtrN.lt {w : World} {base g : Nat} {bs : List Int} (h : WtrN w base g bs) : base ≤ g ∧ g < w.heap.size := by
  obtain ⟨v, h1, h2, h3⟩ := h
  exact ⟨h2, h1.1.lt⟩
theorem WtrN.fr {w w' : World} {base g : Nat} {bs : List Int} {S : Nat → Prop} (h : WtrN w base g bs) (f : Fr S w w') (hs : ∀ k, k < w.heap.size → ¬ S k) : WtrN w' base g bs := by
  obtain ⟨v, h1, h2, h3⟩ := h
  exact ⟨v, h1.fr f (hs g h1.1.lt) (fun k hk => hs k (OwnB.lt h1.2 k hk)), h2, h3⟩
theorem WtrN.new (w : World) : WtrN (w.alloc (.cells #[.slice none 0 0] 60)) w.heap.size w.heap.size [] :=
  ⟨_, ⟨Blk.new w _ _, OwnB.nil _ _ _⟩, Nat.le_refl _, fun _ h => by cases h⟩
theorem WtrN.read {w w' : World} {base g gr lo hi : Nat} {bs bs' : List Int} {bad : Bool} (h : WtrN w base g bs) (r : Rdr w gr lo hi bs' bad) (f : Fr (only gr) w w') : WtrN w' base g bs := by
  obtain ⟨v, h1, h2, h3⟩ := h
  obtain ⟨v', hb, _⟩ := r
  exact ⟨v, h1.fr f (Blk.ne h1.1 hb (by decide)) (fun k hk e => OwnB.ne h1.2 hb (by decide) (by rw [hk, show k = gr from e])), h2, h3⟩
theorem put_n {w w' : World} {base g : Nat} {v : Value} {bs xs : List Int} {e : Ending} (hg : base ≤ g) (hk : ∀ k, v.ownBlock = some k → base ≤ k) (hw : g < w.heap.size) (h : PutP w g v bs xs e w') :
    e = .returned (.tuple #[]) ∧ WtrN w' base g (bs ++ xs) ∧ Below base w w' := by
  obtain ⟨rfl, v', h1, h2, h3⟩ := h
  refine ⟨rfl, ⟨v', h1, hg, fun k hk' => ?_⟩, Bl.of_fr h3 (by omega) (fun k hS => ?_)⟩
  · rcases h2 with h2 | ⟨b, h2, h4, _⟩
    · exact hk k (h2 ▸ hk')
    · rw [h2] at hk'; injection hk' with hk'; omega
  · rcases hS with e | e
    · omega
    · exact hk k e
def PutN (w : World) (base g : Nat) (bs xs : List Int) (e : Ending) (w' : World) : Prop := e = .returned (.tuple #[]) ∧ WtrN w' base g (bs ++ xs) ∧ Below base w w'
theorem putn_calls (base g lo hi : Nat) (x : Value) (bs xs : List Int) (w : World) (h : WtrN w base g bs) (hx : SlB w lo hi x xs) (hl : bs.length + xs.length ≤ 140737488355328) :
    Calls Try.prog 28 #[.pointer (some ⟨g, 0, none⟩), x] w (PutN w base g bs xs) := by
  obtain ⟨v, h1, h2, h3⟩ := h
  exact (put_calls g lo hi v x bs xs w h1 hx hl).mono fun e w' hp => put_n h2 h3 h1.1.lt hp
theorem u16n_calls (base g : Nat) (bs : List Int) (x : Int) (w : World) (h : WtrN w base g bs) (hl : bs.length + 2 ≤ 140737488355328) :
    Calls Try.prog 27 #[.pointer (some ⟨g, 0, none⟩), .int .u16 x] w (PutN w base g bs [x / 256 % 256, x % 256]) := by
  obtain ⟨v, h1, h2, h3⟩ := h
  exact (wu16_calls g v bs x w h1 hl).mono fun e w' hp => put_n h2 h3 h1.1.lt hp
theorem u8n_calls (base g : Nat) (bs : List Int) (x : Int) (w : World) (h : WtrN w base g bs) (hl : bs.length + 1 ≤ 140737488355328) :
    Calls Try.prog 25 #[.pointer (some ⟨g, 0, none⟩), .int .u8 x] w (PutN w base g bs [x]) := by
  obtain ⟨v, h1, h2, h3⟩ := h
  exact (wu8_calls g v bs x w h1 hl).mono fun e w' hp => put_n h2 h3 h1.1.lt hp
theorem u32n_calls (base g : Nat) (bs : List Int) (x : Int) (w : World) (h : WtrN w base g bs) (hl : bs.length + 4 ≤ 140737488355328) :
    Calls Try.prog 47 #[.pointer (some ⟨g, 0, none⟩), .int .u32 x] w (PutN w base g bs [x / 16777216 % 256, x / 65536 % 256, x / 256 % 256, x % 256]) := by
  obtain ⟨v, h1, h2, h3⟩ := h
  exact (wu32_calls g v bs x w h1 hl).mono fun e w' hp => put_n h2 h3 h1.1.lt hp
theorem padn_calls (base g : Nat) (bs : List Int) (n : Nat) (w : World) (h : WtrN w base g bs) (hl : bs.length + n ≤ 140737488355328) (hn : 0 < n) :
    Calls Try.prog 30 #[.pointer (some ⟨g, 0, none⟩), .int .i64 n] w (PutN w base g bs (List.replicate ((n - bs.length % n) % n) 0)) := by
  obtain ⟨v, h1, h2, h3⟩ := h
  exact (wpad_calls g v bs n w h1 hl hn).mono fun e w' hp => put_n h2 h3 h1.1.lt hp
theorem lenn_calls (base g : Nat) (bs : List Int) (w : World) (h : WtrN w base g bs) :
    Calls Try.prog 24 #[.pointer (some ⟨g, 0, none⟩)] w (fun e w' => e = .returned (.int .i64 bs.length) ∧ w' = w) := by
  obtain ⟨v, h1, h2, h3⟩ := h
  exact wlen_calls g v bs w h1
/-- Out: a row of its own, that reads as a string too. -/
def OutN (w : World) (base g : Nat) (bs : List Int) (e : Ending) (w' : World) : Prop :=
  ∃ A n cap, e = .returned (.slice A n cap) ∧ n = bs.length ∧ (convert 29 9 (.slice A n cap)).run Try.prog w' = .ok (.string (bstr bs)) w' ∧ OwnB w' w.heap.size 5 (.slice A n cap) bs ∧
    WtrN w' base g bs ∧ Below w.heap.size w w'
theorem outn_calls (base g : Nat) (bs : List Int) (w : World) (h : WtrN w base g bs) (hl : bs.length ≤ 140737488355328) :
    Calls Try.prog 29 #[.pointer (some ⟨g, 0, none⟩)] w (OutN w base g bs) := by
  have h0 := h
  obtain ⟨v, h1, h2, h3⟩ := h
  refine (wout_calls g v bs w h1 hl).mono ?_
  rintro e w' ⟨v', rfl, o, B⟩
  obtain ⟨A, n, cap, rfl, hn, hs⟩ := OwnB.str o
  exact ⟨A, n, cap, rfl, hn, hs, o, h0.fr (Fr.of_below (S := nothing) B) (fun _ _ h => h), B⟩
def TakeN (w : World) (g lo hi : Nat) (bs : List Int) (bad : Bool) (n : Int) (e : Ending) (w' : World) : Prop :=
  ∃ A k cap, e = .returned (.slice A k cap) ∧ k = (tk bs n).length ∧ (convert 29 9 (.slice A k cap)).run Try.prog w' = .ok (.string (bstr (tk bs n))) w' ∧ OwnB w' w.heap.size 5 (.slice A k cap) (tk bs n) ∧
    Rdr w' g lo hi (lf bs n) (bd bs bad n) ∧ Fr (only g) w w'
theorem taken_calls (g lo hi : Nat) (bs : List Int) (bad : Bool) (n : Int) (w : World) (h : Rdr w g lo hi bs bad) :
    Calls Try.prog 39 #[.pointer (some ⟨g, 0, none⟩), .int .i64 n] w (TakeN w g lo hi bs bad n) := by
  refine (take_calls g lo hi bs bad n w h).mono ?_
  rintro e w' ⟨v', rfl, o, r, f⟩
  obtain ⟨A, k, cap, rfl, hn, hs⟩ := OwnB.str o
  exact ⟨A, k, cap, rfl, hn, hs, o, r, f⟩
end Go.Proofs.Ytaifihoheieneaa.Octet
namespace Go.Proofs.Ytaifihoheieneaa.Octet
open Go.RowKit Go.Proofs.Ytaifihoheieneaa.Mem
set_option linter.unusedVariables false
set_option linter.unusedSimpArgs false

/-- How many noughts. -/
def padTo (k : Nat) (n : Int) : Nat := if n ≤ 0 then 0 else ((n.toNat - k % n.toNat) % n.toNat)
set_option maxHeartbeats 1000000 in
set_option maxRecDepth 100000 in
theorem rpad_calls (v : Value) (xs : List Int) (n : Int) (w : World) (h : OwnB w 0 5 v xs) (hl : xs.length + 1000 ≤ 140737488355328) (hn1 : n ≤ 1000) :
    Calls Try.prog 33 #[v, .int .i64 n] w fun e w' => ∃ A k cap, e = .returned (.slice A k cap) ∧ k = (xs ++ List.replicate (padTo xs.length n) 0).length ∧ AppP w v (xs ++ List.replicate (padTo xs.length n) 0) (.slice A k cap) w' := by
  obtain ⟨i0, hi0, hz0, hz1, hz2⟩ := info_parts info_b
  rcases (show n ≤ 0 ∨ 0 < n by omega) with hn | hn
  · have hn' : ¬ 0 < n := by omega
    have e0 : padTo xs.length n = 0 := if_pos hn
    obtain ⟨A, cap, e1, _⟩ := OwnB.slice h
    rw [e0]
    subst e1
    go_enter Try.func33, Try.ntmps33
    go_wp2_with fail
    go_loopw [0] (fun x wr => x = .slice A xs.length cap ∧ wr = w) (fun _ _ => 0)
    case atStart => exact ⟨rfl, rfl⟩
    case round =>
      obtain ⟨rfl, rfl⟩ := hrel
      go_wp2
      go_ret
      exact ⟨_, _, _, rfl, by simp, by simpa using AppP.refl h⟩
  · obtain ⟨q, rfl⟩ : ∃ q : Nat, n = q := ⟨n.toNat, by omega⟩
    have hq : 0 < q ∧ q ≤ 1000 := by omega
    obtain ⟨hq1, hq2⟩ := hq
    obtain ⟨P, hP⟩ : ∃ P, P = padTo xs.length q := ⟨_, rfl⟩
    rw [← hP]
    have hP0 : P = (q - xs.length % q) % q := by rw [hP]; unfold padTo; rw [if_neg (by omega)]; simp
    have hPq : P < q := by rw [hP0]; exact Nat.mod_lt _ hq1
    have key : ∀ j, j ≤ P → ((xs.length + j) % q = 0 ↔ j = P) := by
      clear h hn hn1
      intro j hj
      have h0 := Nat.mod_lt xs.length hq1
      have hd := Nat.div_add_mod xs.length q
      by_cases hz : xs.length % q = 0
      · have : P = 0 := by rw [hP0, hz]; simp
        subst this
        obtain rfl : j = 0 := by omega
        simpa using hz
      · rw [Nat.mod_eq_of_lt (by omega)] at hP0
        constructor
        · intro h1
          have h2 : (xs.length + j) % q = (xs.length % q + j) % q := by simp
          rw [h2] at h1
          rcases Nat.lt_or_ge (xs.length % q + j) q with h3 | h3
          · rw [Nat.mod_eq_of_lt h3] at h1; omega
          · omega
        · intro h1
          subst h1
          rw [show xs.length + j = q * (xs.length / q + 1) by rw [Nat.mul_add]; omega]
          exact Nat.mul_mod_right _ _
    clear hP hP0
    have hn2 : (0 : Int) < q := by omega
    have hn3 : ¬ (q : Int) = 0 := by omega
    have KEY := Lib.hid key
    clear key
    go_enter Try.func33, Try.ntmps33
    go_wp2_with fail
    go_loopw [0] (fun x wr => ∃ j, j ≤ P ∧ AppP w v (xs ++ List.replicate j 0) x wr) (fun x _ => xs.length + P - lenV x)
    case atStart => exact ⟨0, Nat.zero_le _, by simpa using AppP.refl h⟩
    case round =>
      obtain ⟨j, hj, hx⟩ := hrel
      obtain ⟨A, cap, rfl⟩ := hx.shape
      have hlen : (xs ++ List.replicate j 0).length = xs.length + j := by simp
      have HX := Lib.hid hx
      rw [hlen] at HX ⊢
      by_cases hjP : j = P
      · have h0 : (((xs.length + j : Nat) : Int) % q != 0) = false := by
          have := (KEY.out j hj).2 hjP
          simp only [bne_eq_false_iff_eq]
          omega
        clear hx
        generalize hL : xs.length + j = L at *
        go_wp2
        go_ret
        refine ⟨_, _, _, rfl, by simp; omega, ?_⟩
        subst hjP
        exact HX.out
      · have h0 : (((xs.length + j : Nat) : Int) % q != 0) = true := by
          simp only [bne_iff_ne]
          intro h1
          exact hjP ((KEY.out j hj).1 (by omega))
        have hA := hx.alloc (.cells #[.int .u8 0] 5 (0, 0))
        rw [hlen] at hA
        clear hx hlen
        generalize hL : xs.length + j = L at *
        have hlt : L + 1 ≤ 140737488355328 := by omega
        go_wp2_with (at_builtin; refine wpList_append_b _ rfl (.tmp 14) (.tmp 15) _ rfl 0 5 i0 Try.underlying29 hi0 hz0 hz1 hz2 _ (xs ++ List.replicate j 0) rfl hA.1 0 (wr.heap.size + 1) _ _ 1 [0] rfl rfl (lit_rd wr #[.int .u8 0] (0, 0) [0] (by intro i hi; match i, hi with | 0, _ => rfl)) (by simp; omega) (Nat.zero_le _) ?_; intro v' w' hown hg hat; have hB := hA.trans (AppP.of_grown hown hg hat); clear hown hg hat; rw [List.append_assoc, ← List.replicate_succ'] at hB; obtain ⟨A', cap', ev⟩ := hB.shape; subst ev; simp only [List.length_append, List.length_replicate] at hB)
        go_roundw
        case rel => exact ⟨j + 1, by omega, hB⟩
        case measure => simp [lenV]; omega
/-- The bytes of a number, the greatest first. -/
def txt (v : Int) (n : Nat) : List Int := (List.range n).map fun j => v / 256 ^ (n - 1 - j) % 256
theorem txt_len (v : Int) (n : Nat) : (txt v n).length = n := by simp [txt]
theorem txt_snoc (v : Int) (n r : Nat) (hr : r < n) : (txt v n).take (n - (r + 1)) ++ [v / 256 ^ r % 256] = (txt v n).take (n - r) := by
  rw [show n - r = n - (r + 1) + 1 by omega, List.take_add_one]
  congr 1
  simp [txt, List.getElem?_range, show n - (r + 1) < n by omega, show n - 1 - (n - (r + 1)) = r by omega]
set_option maxHeartbeats 1000000 in
set_option maxRecDepth 100000 in
theorem rtext_calls (v : Int) (n : Nat) (w : World) (h0 : 0 ≤ v) (h1 : v < 4294967296) (hn : n ≤ 4) :
    Calls Try.prog 51 #[.int .u64 v, .int .i64 n] w fun e w' => ∃ A k cap, e = .returned (.slice A k cap) ∧ k = n ∧ OwnB w' w.heap.size 5 (.slice A k cap) (txt v n) ∧ Below w.heap.size w w' := by
  obtain ⟨i0, hi0, hz0, hz1, hz2⟩ := info_parts info_b
  go_enter Try.func51, Try.ntmps51
  go_wp2_with fail
  go_loopw [5, 6] (fun x i wr => ∃ r : Nat, r ≤ n ∧ i = .int .i64 ((r : Int) - 1) ∧ AppP w (.slice none 0 0) ((txt v n).take (n - r)) x wr) (fun _ i _ => (intOf i + 1).toNat)
  case atStart => exact ⟨n, Nat.le_refl _, by go_num, by simpa using AppP.refl (OwnB.nil _ _ _)⟩
  case round =>
    obtain ⟨r, hr, rfl, hx⟩ := hrel
    obtain ⟨A, cap, rfl⟩ := hx.shape
    have hlen : ((txt v n).take (n - r)).length = n - r := by simp [txt_len]
    have HX := Lib.hid hx
    rw [hlen] at HX ⊢
    rcases (show r = 0 ∨ r = 0 + 1 ∨ r = 1 + 1 ∨ r = 2 + 1 ∨ r = 3 + 1 by omega) with rfl | rfl | rfl | rfl | rfl
    · rw [Nat.sub_zero, List.take_of_length_le (by rw [txt_len]; exact Nat.le_refl _)] at HX
      rw [show (((0 : Nat) : Int) - 1) = -1 from rfl]
      clear hx hlen
      go_wp2
      go_ret
      obtain ⟨o, B⟩ := HX.out.new
      exact ⟨_, _, _, rfl, rfl, o, B⟩
    · have hrn : 0 < n := by omega
      have e1 := txt_snoc v n 0 hrn
      rw [show v / 256 ^ 0 % 256 = v % 256 from by (try simp) <;> omega] at e1
      have hA := hx.alloc (.cells #[.int .u8 (v % 256)] 5 (0, 0))
      rw [hlen] at hA
      clear hx
      rw [show (((0 + 1 : Nat) : Int) - 1) = 0 from rfl]
      have hN : n - (0 + 1) + 1 = n - 0 := by omega
      generalize hL : n - (0 + 1) = L at hA HX hlen e1 hN ⊢
      have hL4 : L ≤ 4 := by omega
      generalize hT : (txt v n).take L = T at hA HX hlen e1
      have hlT : T.length + 1 ≤ 140737488355328 := by omega
      subst hlen
      go_wp2_with (at_builtin; refine wpList_append_b _ rfl (.tmp 13) (.tmp 20) _ rfl 0 5 i0 Try.underlying29 hi0 hz0 hz1 hz2 _ T rfl hA.1 0 (wr.heap.size + 1) _ _ 1 [v % 256] rfl rfl (lit_rd wr #[.int .u8 (v % 256)] (0, 0) [v % 256] (by intro i hi; match i, hi with | 0, _ => rfl)) hlT (Nat.zero_le _) ?_; intro v' w' hown hg hat; have hB := hA.trans (AppP.of_grown hown hg hat); clear hown hg hat; rw [e1] at hB; obtain ⟨A', cap', ev⟩ := hB.shape; subst ev; simp only [List.length_take, Nat.sub_zero] at hB)
      go_roundw
      case rel => exact ⟨0, by omega, rfl, hB⟩
      case measure => simp [intOf]
    · have hrn : 1 < n := by omega
      have e1 := txt_snoc v n 1 hrn
      rw [show v / 256 ^ 1 % 256 = v / 256 % 256 from by (try simp) <;> omega] at e1
      have hA := hx.alloc (.cells #[.int .u8 (v / 256 % 256)] 5 (0, 0))
      rw [hlen] at hA
      clear hx
      rw [show (((1 + 1 : Nat) : Int) - 1) = 1 from rfl]
      have hN : n - (1 + 1) + 1 = n - 1 := by omega
      generalize hL : n - (1 + 1) = L at hA HX hlen e1 hN ⊢
      have hL4 : L ≤ 4 := by omega
      generalize hT : (txt v n).take L = T at hA HX hlen e1
      have hlT : T.length + 1 ≤ 140737488355328 := by omega
      subst hlen
      go_wp2_with (at_builtin; refine wpList_append_b _ rfl (.tmp 13) (.tmp 20) _ rfl 0 5 i0 Try.underlying29 hi0 hz0 hz1 hz2 _ T rfl hA.1 0 (wr.heap.size + 1) _ _ 1 [v / 256 % 256] rfl rfl (lit_rd wr #[.int .u8 (v / 256 % 256)] (0, 0) [v / 256 % 256] (by intro i hi; match i, hi with | 0, _ => rfl)) hlT (Nat.zero_le _) ?_; intro v' w' hown hg hat; have hB := hA.trans (AppP.of_grown hown hg hat); clear hown hg hat; rw [e1] at hB; obtain ⟨A', cap', ev⟩ := hB.shape; subst ev; simp only [List.length_take, Nat.sub_zero] at hB)
      go_roundw
      case rel => exact ⟨1, by omega, rfl, hB⟩
      case measure => simp [intOf]
    · have hrn : 2 < n := by omega
      have e1 := txt_snoc v n 2 hrn
      rw [show v / 256 ^ 2 % 256 = v / 65536 % 256 from by (try simp) <;> omega] at e1
      have hA := hx.alloc (.cells #[.int .u8 (v / 65536 % 256)] 5 (0, 0))
      rw [hlen] at hA
      clear hx
      rw [show (((2 + 1 : Nat) : Int) - 1) = 2 from rfl]
      have hN : n - (2 + 1) + 1 = n - 2 := by omega
      generalize hL : n - (2 + 1) = L at hA HX hlen e1 hN ⊢
      have hL4 : L ≤ 4 := by omega
      generalize hT : (txt v n).take L = T at hA HX hlen e1
      have hlT : T.length + 1 ≤ 140737488355328 := by omega
      subst hlen
      go_wp2_with (at_builtin; refine wpList_append_b _ rfl (.tmp 13) (.tmp 20) _ rfl 0 5 i0 Try.underlying29 hi0 hz0 hz1 hz2 _ T rfl hA.1 0 (wr.heap.size + 1) _ _ 1 [v / 65536 % 256] rfl rfl (lit_rd wr #[.int .u8 (v / 65536 % 256)] (0, 0) [v / 65536 % 256] (by intro i hi; match i, hi with | 0, _ => rfl)) hlT (Nat.zero_le _) ?_; intro v' w' hown hg hat; have hB := hA.trans (AppP.of_grown hown hg hat); clear hown hg hat; rw [e1] at hB; obtain ⟨A', cap', ev⟩ := hB.shape; subst ev; simp only [List.length_take, Nat.sub_zero] at hB)
      go_roundw
      case rel => exact ⟨2, by omega, rfl, hB⟩
      case measure => simp [intOf]
    · have hrn : 3 < n := by omega
      have e1 := txt_snoc v n 3 hrn
      rw [show v / 256 ^ 3 % 256 = v / 16777216 from by (try simp) <;> omega] at e1
      have hA := hx.alloc (.cells #[.int .u8 (v / 16777216)] 5 (0, 0))
      rw [hlen] at hA
      clear hx
      rw [show (((3 + 1 : Nat) : Int) - 1) = 3 from rfl]
      have hN : n - (3 + 1) + 1 = n - 3 := by omega
      generalize hL : n - (3 + 1) = L at hA HX hlen e1 hN ⊢
      have hL4 : L ≤ 4 := by omega
      generalize hT : (txt v n).take L = T at hA HX hlen e1
      have hlT : T.length + 1 ≤ 140737488355328 := by omega
      subst hlen
      go_wp2_with (at_builtin; refine wpList_append_b _ rfl (.tmp 13) (.tmp 20) _ rfl 0 5 i0 Try.underlying29 hi0 hz0 hz1 hz2 _ T rfl hA.1 0 (wr.heap.size + 1) _ _ 1 [v / 16777216] rfl rfl (lit_rd wr #[.int .u8 (v / 16777216)] (0, 0) [v / 16777216] (by intro i hi; match i, hi with | 0, _ => rfl)) hlT (Nat.zero_le _) ?_; intro v' w' hown hg hat; have hB := hA.trans (AppP.of_grown hown hg hat); clear hown hg hat; rw [e1] at hB; obtain ⟨A', cap', ev⟩ := hB.shape; subst ev; simp only [List.length_take, Nat.sub_zero] at hB)
      go_roundw
      case rel => exact ⟨3, by omega, rfl, hB⟩
      case measure => simp [intOf]
end Go.Proofs.Ytaifihoheieneaa.Octet

namespace Go.Proofs.Ytaifihoheieneaa.Octet
open Go.RowKit Go.Proofs.Ytaifihoheieneaa.Mem
set_option linter.unusedVariables false
set_option linter.unusedSimpArgs false
/-- A writer at g, all of it from base on, none of it in F. -/
def WtrF (F : Nat → Prop) (w : World) (base g : Nat) (bs : List Int) : Prop :=
  ∃ v, Wtr w g v bs ∧ base ≤ g ∧ ¬ F g ∧ (∀ k, v.ownBlock = some k → base ≤ k ∧ ¬ F k) ∧ (∀ k, F k → k < w.heap.size)
abbrev OwnF (F : Nat → Prop) (base : Nat) : Nat → Prop := fun k => base ≤ k ∧ ¬ F k
def PutF (F : Nat → Prop) (w : World) (base g : Nat) (bs xs : List Int) (e : Ending) (w' : World) : Prop := e = .returned (.tuple #[]) ∧ WtrF F w' base g (bs ++ xs) ∧ Fr (OwnF F base) w w'
theorem WtrF.of {w : World} {base g : Nat} {bs : List Int} (h : WtrN w base g bs) : WtrF nothing w base g bs := by
  obtain ⟨v, h1, h2, h3⟩ := h
  exact ⟨v, h1, h2, id, fun k hk => ⟨h3 k hk, id⟩, fun k h => h.elim⟩
theorem WtrF.free {F : Nat → Prop} {w : World} {base g : Nat} {bs : List Int} (h : WtrF F w base g bs) : WtrN w base g bs := by
  obtain ⟨v, h1, h2, h3, h4, h5⟩ := h
  exact ⟨v, h1, h2, fun k hk => (h4 k hk).1⟩
/-- New blocks, to be let alone from here on. -/
theorem WtrF.hold {w w' : World} {base g : Nat} {bs : List Int} {F : Nat → Prop} (h : WtrN w base g bs) (f : Below w.heap.size w w') (h1 : ∀ k, F k → w.heap.size ≤ k) (h2 : ∀ k, F k → k < w'.heap.size) : WtrF F w' base g bs := by
  obtain ⟨v, a1, a2, a3⟩ := h
  refine ⟨v, a1.fr (S := nothing) (Fr.of_below f) id (fun _ _ h => h), a2, fun hF => ?_, fun k hk => ⟨a3 k hk, fun hF => ?_⟩, h2⟩
  · have := h1 g hF; have := a1.1.lt; omega
  · have := h1 k hF; have := OwnB.lt a1.2 k hk; omega
theorem WtrF.fr {F : Nat → Prop} {w w' : World} {base g : Nat} {bs : List Int} (h : WtrF F w base g bs) (f : Below w.heap.size w w') : WtrF F w' base g bs := by
  obtain ⟨v, a1, a2, a3, a4, a5⟩ := h
  exact ⟨v, a1.fr (S := nothing) (Fr.of_below f) id (fun _ _ h => h), a2, a3, a4, fun k hk => Nat.lt_of_lt_of_le (a5 k hk) f.size⟩
theorem put_f {F : Nat → Prop} {w w' : World} {base g : Nat} {v : Value} {bs xs : List Int} {e : Ending} (h1 : Wtr w g v bs) (h2 : base ≤ g) (h3 : ¬ F g) (h4 : ∀ k, v.ownBlock = some k → base ≤ k ∧ ¬ F k) (h5 : ∀ k, F k → k < w.heap.size)
    (h : PutP w g v bs xs e w') : PutF F w base g bs xs e w' := by
  obtain ⟨rfl, v', a1, a2, a3⟩ := h
  refine ⟨rfl, ⟨v', a1, h2, h3, fun k hk => ?_, fun k hk => Nat.lt_of_lt_of_le (h5 k hk) a3.size⟩, a3.mono (fun k _ hS => ?_)⟩
  · rcases a2 with e | ⟨b, e, l1, l2⟩
    · exact h4 k (e ▸ hk)
    · rw [e] at hk; injection hk with hk
      subst hk
      exact ⟨by have := h1.1.lt; omega, fun hF => by have := h5 _ hF; omega⟩
  · rcases hS with rfl | hS
    · exact ⟨h2, h3⟩
    · exact h4 k hS
theorem putf_calls (F : Nat → Prop) (base g lo hi : Nat) (x : Value) (bs xs : List Int) (w : World) (h : WtrF F w base g bs) (hx : SlB w lo hi x xs) (hl : bs.length + xs.length ≤ 140737488355328) :
    Calls Try.prog 28 #[.pointer (some ⟨g, 0, none⟩), x] w (PutF F w base g bs xs) := by
  obtain ⟨v, h1, h2, h3, h4, h5⟩ := h
  exact (put_calls g lo hi v x bs xs w h1 hx hl).mono fun e w' hp => put_f h1 h2 h3 h4 h5 hp
theorem u8f_calls (F : Nat → Prop) (base g : Nat) (bs : List Int) (x : Int) (w : World) (h : WtrF F w base g bs) (hl : bs.length + 1 ≤ 140737488355328) :
    Calls Try.prog 25 #[.pointer (some ⟨g, 0, none⟩), .int .u8 x] w (PutF F w base g bs [x]) := by
  obtain ⟨v, h1, h2, h3, h4, h5⟩ := h
  exact (wu8_calls g v bs x w h1 hl).mono fun e w' hp => put_f h1 h2 h3 h4 h5 hp
theorem u16f_calls (F : Nat → Prop) (base g : Nat) (bs : List Int) (x : Int) (w : World) (h : WtrF F w base g bs) (hl : bs.length + 2 ≤ 140737488355328) :
    Calls Try.prog 27 #[.pointer (some ⟨g, 0, none⟩), .int .u16 x] w (PutF F w base g bs [x / 256 % 256, x % 256]) := by
  obtain ⟨v, h1, h2, h3, h4, h5⟩ := h
  exact (wu16_calls g v bs x w h1 hl).mono fun e w' hp => put_f h1 h2 h3 h4 h5 hp
theorem u32f_calls (F : Nat → Prop) (base g : Nat) (bs : List Int) (x : Int) (w : World) (h : WtrF F w base g bs) (hl : bs.length + 4 ≤ 140737488355328) :
    Calls Try.prog 47 #[.pointer (some ⟨g, 0, none⟩), .int .u32 x] w (PutF F w base g bs [x / 16777216 % 256, x / 65536 % 256, x / 256 % 256, x % 256]) := by
  obtain ⟨v, h1, h2, h3, h4, h5⟩ := h
  exact (wu32_calls g v bs x w h1 hl).mono fun e w' hp => put_f h1 h2 h3 h4 h5 hp
theorem padf_calls (F : Nat → Prop) (base g : Nat) (bs : List Int) (n : Nat) (w : World) (h : WtrF F w base g bs) (hl : bs.length + n ≤ 140737488355328) (hn : 0 < n) :
    Calls Try.prog 30 #[.pointer (some ⟨g, 0, none⟩), .int .i64 n] w (PutF F w base g bs (List.replicate ((n - bs.length % n) % n) 0)) := by
  obtain ⟨v, h1, h2, h3, h4, h5⟩ := h
  exact (wpad_calls g v bs n w h1 hl hn).mono fun e w' hp => put_f h1 h2 h3 h4 h5 hp
end Go.Proofs.Ytaifihoheieneaa.Octet
