/- The contracts of chunk.Known, chunk.bit, chunk.flags, chunk.long and chunk.body. Conditions: each names its blocks and the bounds. -/
import Derived.Test.YtaifihoheieneaaZChkMath
import Derived.Deep.DeepBigQuietO
import Derived.Deep.QuietTactic
namespace Go.Proofs.Ytaifihoheieneaa.Chk
open Go.RowKit Go.Proofs.Ytaifihoheieneaa.Mem Go.Proofs.Ytaifihoheieneaa.Octet Go.Proofs.Ytaifihoheieneaa.Prm
set_option linter.unusedVariables false
set_option linter.unusedSimpArgs false
theorem WtrF.hold2 {F F' : Nat → Prop} {w w' : World} {base g : Nat} {bs : List Int} (h : WtrF F w base g bs) (f : Below w.heap.size w w') (h0 : ∀ k, F' k → F k ∨ w.heap.size ≤ k ∧ k < w'.heap.size) : WtrF F' w' base g bs := by
  obtain ⟨v, a1, a2, a3, a4, a5⟩ := h
  refine ⟨v, a1.fr (S := nothing) (Fr.of_below f) id (fun _ _ h => h), a2, fun hF => ?_, fun k hk => ⟨(a4 k hk).1, fun hF => ?_⟩, fun k hF => ?_⟩
  · rcases h0 g hF with h | h
    · exact a3 h
    · have := a1.1.lt; omega
  · rcases h0 k hF with h | h
    · exact (a4 k hk).2 h
    · have := OwnB.lt a1.2 k hk; omega
  · rcases h0 k hF with h | h
    · exact Nat.lt_of_lt_of_le (a5 k h) f.size
    · exact h.2
theorem WtrF.less {F F' : Nat → Prop} {w : World} {base g : Nat} {bs : List Int} (h : WtrF F' w base g bs) (h0 : ∀ k, F k → F' k) : WtrF F w base g bs := by
  obtain ⟨v, a1, a2, a3, a4, a5⟩ := h
  exact ⟨v, a1, a2, fun h => a3 (h0 _ h), fun k hk => ⟨(a4 k hk).1, fun h => (a4 k hk).2 (h0 _ h)⟩, fun k h => a5 k (h0 _ h)⟩
set_option maxRecDepth 100000 in
theorem bit_calls (is : Bool) (v : Int) (w : World) : Calls Try.prog 48 #[.bool is, .int .u8 v] w fun e w' => e = .returned (.int .u8 (bt is v)) ∧ w' = w := by
  cases is
  · go_enter Try.func48, Try.ntmps48
    go_wp2
    go_ret
    exact ⟨rfl, rfl⟩
  · go_enter Try.func48, Try.ntmps48
    go_wp2
    go_ret
    exact ⟨rfl, rfl⟩
set_option maxRecDepth 100000 in
theorem long_calls (n : Int) (w : World) : Calls Try.prog 23 #[.int .i64 n] w fun e w' => e = .returned (.bool (decide (65535 < n))) ∧ w' = w := by
  go_enter Try.func23, Try.ntmps23
  go_wp2
  go_ret
  exact ⟨rfl, rfl⟩
set_option maxHeartbeats 2000000 in
set_option maxRecDepth 100000 in
theorem known_calls (k : Int) (w : World) : Calls Try.prog 16 #[.int .u8 k] w fun e w' => e = .returned (.bool (kn k)) ∧ w' = w := by
  by_cases h0 : k = 0
  · subst h0
    rw [show kn 0 = true from rfl]
    go_enter Try.func16, Try.ntmps16
    go_wp2
    go_ret
    exact ⟨rfl, rfl⟩
  have e0 : (k == 0) = false := beq_eq_false_iff_ne.2 h0
  by_cases h1 : k = 1
  · subst h1
    rw [show kn 1 = true from rfl]
    go_enter Try.func16, Try.ntmps16
    go_wp2
    go_ret
    exact ⟨rfl, rfl⟩
  have e1 : (k == 1) = false := beq_eq_false_iff_ne.2 h1
  by_cases h2 : k = 2
  · subst h2
    rw [show kn 2 = true from rfl]
    go_enter Try.func16, Try.ntmps16
    go_wp2
    go_ret
    exact ⟨rfl, rfl⟩
  have e2 : (k == 2) = false := beq_eq_false_iff_ne.2 h2
  by_cases h3 : k = 3
  · subst h3
    rw [show kn 3 = true from rfl]
    go_enter Try.func16, Try.ntmps16
    go_wp2
    go_ret
    exact ⟨rfl, rfl⟩
  have e3 : (k == 3) = false := beq_eq_false_iff_ne.2 h3
  by_cases h4 : k = 4
  · subst h4
    rw [show kn 4 = true from rfl]
    go_enter Try.func16, Try.ntmps16
    go_wp2
    go_ret
    exact ⟨rfl, rfl⟩
  have e4 : (k == 4) = false := beq_eq_false_iff_ne.2 h4
  by_cases h5 : k = 5
  · subst h5
    rw [show kn 5 = true from rfl]
    go_enter Try.func16, Try.ntmps16
    go_wp2
    go_ret
    exact ⟨rfl, rfl⟩
  have e5 : (k == 5) = false := beq_eq_false_iff_ne.2 h5
  by_cases h6 : k = 6
  · subst h6
    rw [show kn 6 = true from rfl]
    go_enter Try.func16, Try.ntmps16
    go_wp2
    go_ret
    exact ⟨rfl, rfl⟩
  have e6 : (k == 6) = false := beq_eq_false_iff_ne.2 h6
  by_cases h7 : k = 7
  · subst h7
    rw [show kn 7 = true from rfl]
    go_enter Try.func16, Try.ntmps16
    go_wp2
    go_ret
    exact ⟨rfl, rfl⟩
  have e7 : (k == 7) = false := beq_eq_false_iff_ne.2 h7
  by_cases h8 : k = 8
  · subst h8
    rw [show kn 8 = true from rfl]
    go_enter Try.func16, Try.ntmps16
    go_wp2
    go_ret
    exact ⟨rfl, rfl⟩
  have e8 : (k == 8) = false := beq_eq_false_iff_ne.2 h8
  by_cases h9 : k = 9
  · subst h9
    rw [show kn 9 = true from rfl]
    go_enter Try.func16, Try.ntmps16
    go_wp2
    go_ret
    exact ⟨rfl, rfl⟩
  have e9 : (k == 9) = false := beq_eq_false_iff_ne.2 h9
  by_cases h10 : k = 10
  · subst h10
    rw [show kn 10 = true from rfl]
    go_enter Try.func16, Try.ntmps16
    go_wp2
    go_ret
    exact ⟨rfl, rfl⟩
  have e10 : (k == 10) = false := beq_eq_false_iff_ne.2 h10
  by_cases h11 : k = 11
  · subst h11
    rw [show kn 11 = true from rfl]
    go_enter Try.func16, Try.ntmps16
    go_wp2
    go_ret
    exact ⟨rfl, rfl⟩
  have e11 : (k == 11) = false := beq_eq_false_iff_ne.2 h11
  by_cases h14 : k = 14
  · subst h14
    rw [show kn 14 = true from rfl]
    go_enter Try.func16, Try.ntmps16
    go_wp2
    go_ret
    exact ⟨rfl, rfl⟩
  have e14 : (k == 14) = false := beq_eq_false_iff_ne.2 h14
  by_cases h64 : k = 64
  · subst h64
    rw [show kn 64 = true from rfl]
    go_enter Try.func16, Try.ntmps16
    go_wp2
    go_ret
    exact ⟨rfl, rfl⟩
  have e64 : (k == 64) = false := beq_eq_false_iff_ne.2 h64
  by_cases h130 : k = 130
  · subst h130
    rw [show kn 130 = true from rfl]
    go_enter Try.func16, Try.ntmps16
    go_wp2
    go_ret
    exact ⟨rfl, rfl⟩
  have e130 : (k == 130) = false := beq_eq_false_iff_ne.2 h130
  by_cases h192 : k = 192
  · subst h192
    rw [show kn 192 = true from rfl]
    go_enter Try.func16, Try.ntmps16
    go_wp2
    go_ret
    exact ⟨rfl, rfl⟩
  have e192 : (k == 192) = false := beq_eq_false_iff_ne.2 h192
  by_cases h194 : k = 194
  · subst h194
    rw [show kn 194 = true from rfl]
    go_enter Try.func16, Try.ntmps16
    go_wp2
    go_ret
    exact ⟨rfl, rfl⟩
  have e194 : (k == 194) = false := beq_eq_false_iff_ne.2 h194
  have hf : kn k = false := by simp [kn, h0, h1, h2, h3, h4, h5, h6, h7, h8, h9, h10, h11, h14, h64, h130, h192, h194]
  rw [hf]
  clear hf h0 h1 h2 h3 h4 h5 h6 h7 h8 h9 h10 h11 h14 h64 h130 h192 h194
  go_enter Try.func16, Try.ntmps16
  go_wp2
  go_ret
  exact ⟨rfl, rfl⟩
theorem fl_bits (b e l : Bool) : bits .or .u8 (bits .or .u8 (bt e 1) (bt b 2)) (bt l 4) = bt e 1 + bt b 2 + bt l 4 := by
  cases b <;> cases e <;> cases l <;> kernel_rfl
set_option maxHeartbeats 2000000 in
set_option maxRecDepth 100000 in
theorem flags_calls (lo hi : Nat) (cs : Array Value) (c : Ck) (w : World) (hC : CkV w lo hi cs c) : Calls Try.prog 26 #[.agg cs] w fun e w' => e = .returned (.int .u8 (fl c)) ∧ Below w.heap.size w w' := by
  have hsz := hC.size
  have B1 : Below w.heap.size w (w.alloc (.cells cs 31)) := (Below.refl _ w).alloc (Nat.le_refl _) _
  have bC := Blk.new w cs 31
  have cc0 := (bC.cell 0).trans hC.c0
  have cc1 := (bC.cell 1).trans hC.c1
  have cc2 := (bC.cell 2).trans hC.c2
  have cc3 := (bC.cell 3).trans hC.c3
  have cc4 := (bC.cell 4).trans hC.c4
  obtain ⟨k, b, e, l, r, tsn, st, mid, pp, fr, tag, win, out, inn, gaps, dups, skips, ps, body⟩ := c
  have HFL := Lib.hid (fl_bits b e l)
  unfold fl
  simp only at cc0 cc1 cc2 cc3 cc4 ⊢
  clear hC
  have HBC := Lib.hid bC
  clear bC
  by_cases h0 : k = 0
  · subst h0
    rw [if_pos (by decide)]
    go_enter Try.func26, Try.ntmps26
    go_wp2_with fail
    go_quiet (first | (go_at_call 48; with_reducible exact Calls.quiet_of_same (bit_calls e 1 _)) | (go_at_call 48; with_reducible exact Calls.quiet_of_same (bit_calls b 2 _)) | (go_at_call 48; exact Calls.quiet_of_same (bit_calls l 4 _)))
    go_wp2
    go_ret
    exact ⟨by rw [← HFL.out]; rfl, Bl.trans B1 (Bl.of_fr (S := nothing) ((Fr.refl _ _).drewN _) B1.size (fun k h => False.elim h))⟩
  by_cases h64 : k = 64
  · subst h64
    rw [if_pos (by decide)]
    go_enter Try.func26, Try.ntmps26
    go_wp2_with fail
    go_quiet (first | (go_at_call 48; with_reducible exact Calls.quiet_of_same (bit_calls e 1 _)) | (go_at_call 48; with_reducible exact Calls.quiet_of_same (bit_calls b 2 _)) | (go_at_call 48; exact Calls.quiet_of_same (bit_calls l 4 _)))
    go_wp2
    go_ret
    exact ⟨by rw [← HFL.out]; rfl, Bl.trans B1 (Bl.of_fr (S := nothing) ((Fr.refl _ _).drewN _) B1.size (fun k h => False.elim h))⟩
  rw [if_neg (by omega)]
  by_cases h6 : k = 6
  · subst h6
    rw [if_pos (by decide)]
    go_enter Try.func26, Try.ntmps26
    go_wp2_with fail
    refine (bit_calls _ _ _).mono ?_
    rintro e1 w1 ⟨rfl, rfl⟩
    go_wp2
    go_ret
    exact ⟨rfl, B1⟩
  by_cases h14 : k = 14
  · subst h14
    rw [if_pos (by decide)]
    go_enter Try.func26, Try.ntmps26
    go_wp2_with fail
    refine (bit_calls _ _ _).mono ?_
    rintro e1 w1 ⟨rfl, rfl⟩
    go_wp2
    go_ret
    exact ⟨rfl, B1⟩
  rw [if_neg (by omega)]
  have e0 : (k == 0) = false := beq_eq_false_iff_ne.2 h0
  have e64 : (k == 64) = false := beq_eq_false_iff_ne.2 h64
  have e6 : (k == 6) = false := beq_eq_false_iff_ne.2 h6
  have e14 : (k == 14) = false := beq_eq_false_iff_ne.2 h14
  clear h0 h64 h6 h14
  go_enter Try.func26, Try.ntmps26
  go_wp2
  go_ret
  exact ⟨rfl, B1⟩
/-- What the body writes, and its error. -/
def BodyP (w : World) (base g : Nat) (c : Ck) (e : Ending) (w' : World) : Prop :=
  e = .returned (.int .i64 (bE c)) ∧ Below base w w' ∧ (bE c = 0 → WtrN w' base g (bB c))
set_option maxHeartbeats 4000000 in
set_option maxRecDepth 100000 in
theorem body_4 (base g lo hi : Nat) (cs : Array Value) (c : Ck) (w : World) (W0 : WtrN w base g []) (hC : CkV w lo hi cs c) (hhi : hi ≤ base) (hBd : CkB c) (hL : CkL c) (hk : c.k = 4) :
    Calls Try.prog 22 #[.pointer (some ⟨g, 0, none⟩), .agg cs] w (BodyP w base g c) := by
  have hsz := hC.size
  have hbw : base ≤ w.heap.size := by have := W0.lt; omega
  have B0 : Below base w (w.alloc (.cells cs 31)) := (Below.refl base w).alloc hbw _
  have bC := Blk.new w cs 31
  have WF := WtrF.hold (F := only w.heap.size) W0 ((Below.refl w.heap.size w).alloc (Nat.le_refl _) (.cells cs 31)) (fun k h => by omega) (fun k h => by simp; omega)
  have hC1 := hC.fr (S := nothing) ((Fr.refl _ w).alloc (.cells cs 31)) (fun _ _ _ h => h)
  have hsub : ∀ b, lo ≤ b → b < hi → ¬ OwnF (only w.heap.size) base b := fun b _ h2 h3 => by have := h3.1; omega
  have c0 := hC.c0
  rw [hk] at c0
  have HK := Lib.hid hk
  have l18 := hL.body
  clear hk W0
  have HE := Lib.hid (show bE c = 0 by simp [bE, HK.out])
  have HB := Lib.hid (show bB c = c.body by simp [bB, HK.out])
  have cc := (bC.cell 0).trans c0
  go_enter Try.func22, Try.ntmps22
  obtain ⟨A18, p18, e18, h18⟩ := hC1.c18
  have cc := (bC.cell 18).trans e18
  go_wp2_with fail
  refine (putf_calls _ _ _ _ _ _ _ c.body _ WF h18 (by simp; omega)).mono ?_
  rintro e w1 ⟨rfl, W, f⟩
  replace bC := Blk.fr bC f (fun h => h.2 rfl)
  replace hC1 := hC1.fr f hsub
  replace B0 := Bl.trans B0 (Bl.of_fr f (Nat.le_trans hbw B0.size) (fun k h => h.1))
  clear WF f cc
  have WF := W
  clear W
  go_wp2
  go_ret
  exact ⟨by rw [HE.out]; rfl, B0, fun _ => by rw [HB.out]; simpa using WF.free⟩
set_option maxHeartbeats 4000000 in
set_option maxRecDepth 100000 in
theorem body_5 (base g lo hi : Nat) (cs : Array Value) (c : Ck) (w : World) (W0 : WtrN w base g []) (hC : CkV w lo hi cs c) (hhi : hi ≤ base) (hBd : CkB c) (hL : CkL c) (hk : c.k = 5) :
    Calls Try.prog 22 #[.pointer (some ⟨g, 0, none⟩), .agg cs] w (BodyP w base g c) := by
  have hsz := hC.size
  have hbw : base ≤ w.heap.size := by have := W0.lt; omega
  have B0 : Below base w (w.alloc (.cells cs 31)) := (Below.refl base w).alloc hbw _
  have bC := Blk.new w cs 31
  have WF := WtrF.hold (F := only w.heap.size) W0 ((Below.refl w.heap.size w).alloc (Nat.le_refl _) (.cells cs 31)) (fun k h => by omega) (fun k h => by simp; omega)
  have hC1 := hC.fr (S := nothing) ((Fr.refl _ w).alloc (.cells cs 31)) (fun _ _ _ h => h)
  have hsub : ∀ b, lo ≤ b → b < hi → ¬ OwnF (only w.heap.size) base b := fun b _ h2 h3 => by have := h3.1; omega
  have c0 := hC.c0
  rw [hk] at c0
  have HK := Lib.hid hk
  have l18 := hL.body
  clear hk W0
  have HE := Lib.hid (show bE c = 0 by simp [bE, HK.out])
  have HB := Lib.hid (show bB c = c.body by simp [bB, HK.out])
  have cc := (bC.cell 0).trans c0
  go_enter Try.func22, Try.ntmps22
  obtain ⟨A18, p18, e18, h18⟩ := hC1.c18
  have cc := (bC.cell 18).trans e18
  go_wp2_with fail
  refine (putf_calls _ _ _ _ _ _ _ c.body _ WF h18 (by simp; omega)).mono ?_
  rintro e w1 ⟨rfl, W, f⟩
  replace bC := Blk.fr bC f (fun h => h.2 rfl)
  replace hC1 := hC1.fr f hsub
  replace B0 := Bl.trans B0 (Bl.of_fr f (Nat.le_trans hbw B0.size) (fun k h => h.1))
  clear WF f cc
  have WF := W
  clear W
  go_wp2
  go_ret
  exact ⟨by rw [HE.out]; rfl, B0, fun _ => by rw [HB.out]; simpa using WF.free⟩
set_option maxHeartbeats 4000000 in
set_option maxRecDepth 100000 in
theorem body_10 (base g lo hi : Nat) (cs : Array Value) (c : Ck) (w : World) (W0 : WtrN w base g []) (hC : CkV w lo hi cs c) (hhi : hi ≤ base) (hBd : CkB c) (hL : CkL c) (hk : c.k = 10) :
    Calls Try.prog 22 #[.pointer (some ⟨g, 0, none⟩), .agg cs] w (BodyP w base g c) := by
  have hsz := hC.size
  have hbw : base ≤ w.heap.size := by have := W0.lt; omega
  have B0 : Below base w (w.alloc (.cells cs 31)) := (Below.refl base w).alloc hbw _
  have bC := Blk.new w cs 31
  have WF := WtrF.hold (F := only w.heap.size) W0 ((Below.refl w.heap.size w).alloc (Nat.le_refl _) (.cells cs 31)) (fun k h => by omega) (fun k h => by simp; omega)
  have hC1 := hC.fr (S := nothing) ((Fr.refl _ w).alloc (.cells cs 31)) (fun _ _ _ h => h)
  have hsub : ∀ b, lo ≤ b → b < hi → ¬ OwnF (only w.heap.size) base b := fun b _ h2 h3 => by have := h3.1; omega
  have c0 := hC.c0
  rw [hk] at c0
  have HK := Lib.hid hk
  have l18 := hL.body
  clear hk W0
  have HE := Lib.hid (show bE c = 0 by simp [bE, HK.out])
  have HB := Lib.hid (show bB c = c.body by simp [bB, HK.out])
  have cc := (bC.cell 0).trans c0
  go_enter Try.func22, Try.ntmps22
  obtain ⟨A18, p18, e18, h18⟩ := hC1.c18
  have cc := (bC.cell 18).trans e18
  go_wp2_with fail
  refine (putf_calls _ _ _ _ _ _ _ c.body _ WF h18 (by simp; omega)).mono ?_
  rintro e w1 ⟨rfl, W, f⟩
  replace bC := Blk.fr bC f (fun h => h.2 rfl)
  replace hC1 := hC1.fr f hsub
  replace B0 := Bl.trans B0 (Bl.of_fr f (Nat.le_trans hbw B0.size) (fun k h => h.1))
  clear WF f cc
  have WF := W
  clear W
  go_wp2
  go_ret
  exact ⟨by rw [HE.out]; rfl, B0, fun _ => by rw [HB.out]; simpa using WF.free⟩
set_option maxHeartbeats 4000000 in
set_option maxRecDepth 100000 in
theorem body_8 (base g lo hi : Nat) (cs : Array Value) (c : Ck) (w : World) (W0 : WtrN w base g []) (hC : CkV w lo hi cs c) (hhi : hi ≤ base) (hBd : CkB c) (hL : CkL c) (hk : c.k = 8) :
    Calls Try.prog 22 #[.pointer (some ⟨g, 0, none⟩), .agg cs] w (BodyP w base g c) := by
  have hsz := hC.size
  have hbw : base ≤ w.heap.size := by have := W0.lt; omega
  have B0 : Below base w (w.alloc (.cells cs 31)) := (Below.refl base w).alloc hbw _
  have bC := Blk.new w cs 31
  have WF := WtrF.hold (F := only w.heap.size) W0 ((Below.refl w.heap.size w).alloc (Nat.le_refl _) (.cells cs 31)) (fun k h => by omega) (fun k h => by simp; omega)
  have hC1 := hC.fr (S := nothing) ((Fr.refl _ w).alloc (.cells cs 31)) (fun _ _ _ h => h)
  have hsub : ∀ b, lo ≤ b → b < hi → ¬ OwnF (only w.heap.size) base b := fun b _ h2 h3 => by have := h3.1; omega
  have c0 := hC.c0
  rw [hk] at c0
  have HK := Lib.hid hk
  have l18 := hL.body
  clear hk W0
  have HE := Lib.hid (show bE c = 0 by simp [bE, HK.out])
  have HB := Lib.hid (show bB c = [] by simp [bB, HK.out])
  have cc := (bC.cell 0).trans c0
  go_enter Try.func22, Try.ntmps22
  go_wp2
  go_ret
  exact ⟨by rw [HE.out]; rfl, B0, fun _ => by rw [HB.out]; simpa using WF.free⟩
set_option maxHeartbeats 4000000 in
set_option maxRecDepth 100000 in
theorem body_11 (base g lo hi : Nat) (cs : Array Value) (c : Ck) (w : World) (W0 : WtrN w base g []) (hC : CkV w lo hi cs c) (hhi : hi ≤ base) (hBd : CkB c) (hL : CkL c) (hk : c.k = 11) :
    Calls Try.prog 22 #[.pointer (some ⟨g, 0, none⟩), .agg cs] w (BodyP w base g c) := by
  have hsz := hC.size
  have hbw : base ≤ w.heap.size := by have := W0.lt; omega
  have B0 : Below base w (w.alloc (.cells cs 31)) := (Below.refl base w).alloc hbw _
  have bC := Blk.new w cs 31
  have WF := WtrF.hold (F := only w.heap.size) W0 ((Below.refl w.heap.size w).alloc (Nat.le_refl _) (.cells cs 31)) (fun k h => by omega) (fun k h => by simp; omega)
  have hC1 := hC.fr (S := nothing) ((Fr.refl _ w).alloc (.cells cs 31)) (fun _ _ _ h => h)
  have hsub : ∀ b, lo ≤ b → b < hi → ¬ OwnF (only w.heap.size) base b := fun b _ h2 h3 => by have := h3.1; omega
  have c0 := hC.c0
  rw [hk] at c0
  have HK := Lib.hid hk
  have l18 := hL.body
  clear hk W0
  have HE := Lib.hid (show bE c = 0 by simp [bE, HK.out])
  have HB := Lib.hid (show bB c = [] by simp [bB, HK.out])
  have cc := (bC.cell 0).trans c0
  go_enter Try.func22, Try.ntmps22
  go_wp2
  go_ret
  exact ⟨by rw [HE.out]; rfl, B0, fun _ => by rw [HB.out]; simpa using WF.free⟩
set_option maxHeartbeats 4000000 in
set_option maxRecDepth 100000 in
theorem body_14 (base g lo hi : Nat) (cs : Array Value) (c : Ck) (w : World) (W0 : WtrN w base g []) (hC : CkV w lo hi cs c) (hhi : hi ≤ base) (hBd : CkB c) (hL : CkL c) (hk : c.k = 14) :
    Calls Try.prog 22 #[.pointer (some ⟨g, 0, none⟩), .agg cs] w (BodyP w base g c) := by
  have hsz := hC.size
  have hbw : base ≤ w.heap.size := by have := W0.lt; omega
  have B0 : Below base w (w.alloc (.cells cs 31)) := (Below.refl base w).alloc hbw _
  have bC := Blk.new w cs 31
  have WF := WtrF.hold (F := only w.heap.size) W0 ((Below.refl w.heap.size w).alloc (Nat.le_refl _) (.cells cs 31)) (fun k h => by omega) (fun k h => by simp; omega)
  have hC1 := hC.fr (S := nothing) ((Fr.refl _ w).alloc (.cells cs 31)) (fun _ _ _ h => h)
  have hsub : ∀ b, lo ≤ b → b < hi → ¬ OwnF (only w.heap.size) base b := fun b _ h2 h3 => by have := h3.1; omega
  have c0 := hC.c0
  rw [hk] at c0
  have HK := Lib.hid hk
  have l18 := hL.body
  clear hk W0
  have HE := Lib.hid (show bE c = 0 by simp [bE, HK.out])
  have HB := Lib.hid (show bB c = [] by simp [bB, HK.out])
  have cc := (bC.cell 0).trans c0
  go_enter Try.func22, Try.ntmps22
  go_wp2
  go_ret
  exact ⟨by rw [HE.out]; rfl, B0, fun _ => by rw [HB.out]; simpa using WF.free⟩
set_option maxHeartbeats 4000000 in
set_option maxRecDepth 100000 in
theorem body_7 (base g lo hi : Nat) (cs : Array Value) (c : Ck) (w : World) (W0 : WtrN w base g []) (hC : CkV w lo hi cs c) (hhi : hi ≤ base) (hBd : CkB c) (hL : CkL c) (hk : c.k = 7) :
    Calls Try.prog 22 #[.pointer (some ⟨g, 0, none⟩), .agg cs] w (BodyP w base g c) := by
  have hsz := hC.size
  have hbw : base ≤ w.heap.size := by have := W0.lt; omega
  have B0 : Below base w (w.alloc (.cells cs 31)) := (Below.refl base w).alloc hbw _
  have bC := Blk.new w cs 31
  have WF := WtrF.hold (F := only w.heap.size) W0 ((Below.refl w.heap.size w).alloc (Nat.le_refl _) (.cells cs 31)) (fun k h => by omega) (fun k h => by simp; omega)
  have hC1 := hC.fr (S := nothing) ((Fr.refl _ w).alloc (.cells cs 31)) (fun _ _ _ h => h)
  have hsub : ∀ b, lo ≤ b → b < hi → ¬ OwnF (only w.heap.size) base b := fun b _ h2 h3 => by have := h3.1; omega
  have c0 := hC.c0
  rw [hk] at c0
  have HK := Lib.hid hk
  have l18 := hL.body
  clear hk W0
  have HE := Lib.hid (show bE c = 0 by simp [bE, HK.out])
  have HB := Lib.hid (show bB c = b32 c.tsn by simp [bB, HK.out])
  have cc := (bC.cell 0).trans c0
  go_enter Try.func22, Try.ntmps22
  have cc := (bC.cell 5).trans hC.c5
  go_wp2_with fail
  refine (u32f_calls _ _ _ _ _ _ WF (by simp)).mono ?_
  rintro e w1 ⟨rfl, W, f⟩
  replace bC := Blk.fr bC f (fun h => h.2 rfl)
  replace hC1 := hC1.fr f hsub
  replace B0 := Bl.trans B0 (Bl.of_fr f (Nat.le_trans hbw B0.size) (fun k h => h.1))
  clear WF f cc
  have WF := W
  clear W
  go_wp2
  go_ret
  exact ⟨by rw [HE.out]; rfl, B0, fun _ => by rw [HB.out]; simpa [b32] using WF.free⟩
theorem wr16 (x : Int) (h : 0 ≤ x ∧ x < 4294967296) : IntKind.u16.wrap x = x % 65536 := by
  simp [IntKind.wrap, IntKind.bits, IntKind.signed]
set_option maxHeartbeats 4000000 in
set_option maxRecDepth 100000 in
theorem body_0 (base g lo hi : Nat) (cs : Array Value) (c : Ck) (w : World) (W0 : WtrN w base g []) (hC : CkV w lo hi cs c) (hhi : hi ≤ base) (hBd : CkB c) (hL : CkL c) (hk : c.k = 0) :
    Calls Try.prog 22 #[.pointer (some ⟨g, 0, none⟩), .agg cs] w (BodyP w base g c) := by
  have hsz := hC.size
  have hbw : base ≤ w.heap.size := by have := W0.lt; omega
  have B0 : Below base w (w.alloc (.cells cs 31)) := (Below.refl base w).alloc hbw _
  have bC := Blk.new w cs 31
  have WF := WtrF.hold (F := only w.heap.size) W0 ((Below.refl w.heap.size w).alloc (Nat.le_refl _) (.cells cs 31)) (fun k h => by omega) (fun k h => by simp; omega)
  have hC1 := hC.fr (S := nothing) ((Fr.refl _ w).alloc (.cells cs 31)) (fun _ _ _ h => h)
  have hsub : ∀ b, lo ≤ b → b < hi → ¬ OwnF (only w.heap.size) base b := fun b _ h2 h3 => by have := h3.1; omega
  have c0 := hC.c0
  rw [hk] at c0
  have HK := Lib.hid hk
  have l18 := hL.body
  clear hk W0
  have HB := Lib.hid (show bB c = b32 c.tsn ++ b16 c.st ++ b16 (c.mid % 65536) ++ b32 c.pp ++ c.body by simp [bB, HK.out])
  obtain ⟨A18, p18, e18, h18⟩ := hC1.c18
  by_cases hb : c.body = []
  · have HE := Lib.hid (show bE c = 42 by simp [bE, HK.out, hb])
    have cc := (bC.cell 0).trans c0
    go_enter Try.func22, Try.ntmps22
    have hz : ((c.body.length : Int) == 0) = true := by rw [hb]; rfl
    have cc := (bC.cell 18).trans e18
    go_wp2
    go_ret
    exact ⟨by rw [HE.out]; rfl, B0, fun h => by rw [HE.out] at h; cases h⟩
  · have HE := Lib.hid (show bE c = 0 by simp [bE, HK.out, hb])
    have hz : ((c.body.length : Int) == 0) = false := beq_eq_false_iff_ne.2 (fun h => hb (List.eq_nil_of_length_eq_zero (by omega)))
    clear hb h18
    have cc := (bC.cell 0).trans c0
    go_enter Try.func22, Try.ntmps22
    have cb := (bC.cell 18).trans e18
    have cc := (bC.cell 5).trans hC.c5
    go_wp2_with fail
    refine (u32f_calls _ _ _ _ _ _ WF (by simp)).mono ?_
    rintro e w1 ⟨rfl, W, f⟩
    replace bC := Blk.fr bC f (fun h => h.2 rfl)
    replace hC1 := hC1.fr f hsub
    replace B0 := Bl.trans B0 (Bl.of_fr f (Nat.le_trans hbw B0.size) (fun k h => h.1))
    clear WF f cc
    have WF := W
    clear W
    clear cb
    have cc := (bC.cell 6).trans hC.c6
    go_wp2_with fail
    refine (u16f_calls _ _ _ _ _ _ WF (by simp)).mono ?_
    rintro e w2 ⟨rfl, W, f⟩
    replace bC := Blk.fr bC f (fun h => h.2 rfl)
    replace hC1 := hC1.fr f hsub
    replace B0 := Bl.trans B0 (Bl.of_fr f (Nat.le_trans hbw B0.size) (fun k h => h.1))
    clear WF f cc
    have WF := W
    clear W
    have cb := (bC.cell 0).trans c0
    have cc := (bC.cell 7).trans hC.c7
    go_wp2_with fail
    refine (u16f_calls _ _ _ _ _ _ WF (by simp)).mono ?_
    rintro e w3 ⟨rfl, W, f⟩
    replace bC := Blk.fr bC f (fun h => h.2 rfl)
    replace hC1 := hC1.fr f hsub
    replace B0 := Bl.trans B0 (Bl.of_fr f (Nat.le_trans hbw B0.size) (fun k h => h.1))
    clear WF f cc
    have WF := W
    clear W
    clear cb
    have cc := (bC.cell 8).trans hC.c8
    go_wp2_with fail
    refine (u32f_calls _ _ _ _ _ _ WF (by simp)).mono ?_
    rintro e w4 ⟨rfl, W, f⟩
    replace bC := Blk.fr bC f (fun h => h.2 rfl)
    replace hC1 := hC1.fr f hsub
    replace B0 := Bl.trans B0 (Bl.of_fr f (Nat.le_trans hbw B0.size) (fun k h => h.1))
    clear WF f cc
    have WF := W
    clear W
    obtain ⟨A19, p19, e19, h19⟩ := hC1.c18
    have cc := (bC.cell 18).trans e19
    go_wp2_with fail
    refine (putf_calls _ _ _ _ _ _ _ c.body _ WF h19 (by simp; omega)).mono ?_
    rintro e w5 ⟨rfl, W, f⟩
    replace bC := Blk.fr bC f (fun h => h.2 rfl)
    replace hC1 := hC1.fr f hsub
    replace B0 := Bl.trans B0 (Bl.of_fr f (Nat.le_trans hbw B0.size) (fun k h => h.1))
    clear WF f cc
    have WF := W
    clear W
    go_wp2
    go_ret
    exact ⟨by rw [HE.out]; rfl, B0, fun _ => by rw [HB.out]; have h := WF.free; simp only [wr16 _ hBd.mid] at h; simpa [b32, b16] using h⟩
theorem wr16n {n : Nat} (h : ¬ 65535 < n) : IntKind.u16.wrap (n : Int) = n := by
  simp [IntKind.wrap, IntKind.bits, IntKind.signed]
  omega
set_option maxHeartbeats 4000000 in
set_option maxRecDepth 100000 in
theorem body_64 (base g lo hi : Nat) (cs : Array Value) (c : Ck) (w : World) (W0 : WtrN w base g []) (hC : CkV w lo hi cs c) (hhi : hi ≤ base) (hBd : CkB c) (hL : CkL c) (hk : c.k = 64) :
    Calls Try.prog 22 #[.pointer (some ⟨g, 0, none⟩), .agg cs] w (BodyP w base g c) := by
  have hsz := hC.size
  have hbw : base ≤ w.heap.size := by have := W0.lt; omega
  have B0 : Below base w (w.alloc (.cells cs 31)) := (Below.refl base w).alloc hbw _
  have bC := Blk.new w cs 31
  have WF := WtrF.hold (F := only w.heap.size) W0 ((Below.refl w.heap.size w).alloc (Nat.le_refl _) (.cells cs 31)) (fun k h => by omega) (fun k h => by simp; omega)
  have hC1 := hC.fr (S := nothing) ((Fr.refl _ w).alloc (.cells cs 31)) (fun _ _ _ h => h)
  have hsub : ∀ b, lo ≤ b → b < hi → ¬ OwnF (only w.heap.size) base b := fun b _ h2 h3 => by have := h3.1; omega
  have c0 := hC.c0
  rw [hk] at c0
  have HK := Lib.hid hk
  have l18 := hL.body
  clear hk W0
  obtain ⟨A18, p18, e18, h18⟩ := hC1.c18
  by_cases hb : c.body = []
  · have HE := Lib.hid (show bE c = 42 by simp [bE, HK.out, hb])
    have cc := (bC.cell 0).trans c0
    go_enter Try.func22, Try.ntmps22
    have hz : ((c.body.length : Int) == 0) = true := by rw [hb]; rfl
    have cc := (bC.cell 18).trans e18
    go_wp2
    go_ret
    exact ⟨by rw [HE.out]; rfl, B0, fun h => by rw [HE.out] at h; cases h⟩
  · have HE := Lib.hid (show bE c = 0 by simp [bE, HK.out, hb])
    have hz : ((c.body.length : Int) == 0) = false := beq_eq_false_iff_ne.2 (fun h => hb (List.eq_nil_of_length_eq_zero (by omega)))
    clear hb h18
    have c1 := hC.c1
    cases hbb : c.b with
    | true =>
      have HB := Lib.hid (show bB c = b32 c.tsn ++ b16 c.st ++ b16 0 ++ b32 c.mid ++ b32 c.pp ++ c.body by simp [bB, HK.out, hbb])
      rw [hbb] at c1
      clear hbb
      have cc := (bC.cell 0).trans c0
      go_enter Try.func22, Try.ntmps22
      have cb := (bC.cell 18).trans e18
      have cc := (bC.cell 5).trans hC.c5
      go_wp2_with fail
      refine (u32f_calls _ _ _ _ _ _ WF (by simp)).mono ?_
      rintro e w1 ⟨rfl, W, f⟩
      replace bC := Blk.fr bC f (fun h => h.2 rfl)
      replace hC1 := hC1.fr f hsub
      replace B0 := Bl.trans B0 (Bl.of_fr f (Nat.le_trans hbw B0.size) (fun k h => h.1))
      clear WF f cc
      have WF := W
      clear W
      clear cb
      have cc := (bC.cell 6).trans hC.c6
      go_wp2_with fail
      refine (u16f_calls _ _ _ _ _ _ WF (by simp)).mono ?_
      rintro e w2 ⟨rfl, W, f⟩
      replace bC := Blk.fr bC f (fun h => h.2 rfl)
      replace hC1 := hC1.fr f hsub
      replace B0 := Bl.trans B0 (Bl.of_fr f (Nat.le_trans hbw B0.size) (fun k h => h.1))
      clear WF f cc
      have WF := W
      clear W
      have cc := (bC.cell 0).trans c0
      go_wp2_with fail
      refine (u16f_calls _ _ _ _ _ _ WF (by simp)).mono ?_
      rintro e w3 ⟨rfl, W, f⟩
      replace bC := Blk.fr bC f (fun h => h.2 rfl)
      replace hC1 := hC1.fr f hsub
      replace B0 := Bl.trans B0 (Bl.of_fr f (Nat.le_trans hbw B0.size) (fun k h => h.1))
      clear WF f cc
      have WF := W
      clear W
      have cc := (bC.cell 7).trans hC.c7
      go_wp2_with fail
      refine (u32f_calls _ _ _ _ _ _ WF (by simp)).mono ?_
      rintro e w4 ⟨rfl, W, f⟩
      replace bC := Blk.fr bC f (fun h => h.2 rfl)
      replace hC1 := hC1.fr f hsub
      replace B0 := Bl.trans B0 (Bl.of_fr f (Nat.le_trans hbw B0.size) (fun k h => h.1))
      clear WF f cc
      have WF := W
      clear W
      have cb := (bC.cell 1).trans c1
      have cc := (bC.cell 8).trans hC.c8
      go_wp2_with fail
      refine (u32f_calls _ _ _ _ _ _ WF (by simp)).mono ?_
      rintro e w5 ⟨rfl, W, f⟩
      replace bC := Blk.fr bC f (fun h => h.2 rfl)
      replace hC1 := hC1.fr f hsub
      replace B0 := Bl.trans B0 (Bl.of_fr f (Nat.le_trans hbw B0.size) (fun k h => h.1))
      clear WF f cc
      have WF := W
      clear W
      clear cb
      obtain ⟨A19, p19, e19, h19⟩ := hC1.c18
      have cc := (bC.cell 18).trans e19
      go_wp2_with fail
      refine (putf_calls _ _ _ _ _ _ _ c.body _ WF h19 (by simp; omega)).mono ?_
      rintro e w6 ⟨rfl, W, f⟩
      replace bC := Blk.fr bC f (fun h => h.2 rfl)
      replace hC1 := hC1.fr f hsub
      replace B0 := Bl.trans B0 (Bl.of_fr f (Nat.le_trans hbw B0.size) (fun k h => h.1))
      clear WF f cc
      have WF := W
      clear W
      go_wp2
      go_ret
      exact ⟨by rw [HE.out]; rfl, B0, fun _ => by rw [HB.out]; have h := WF.free; simpa [b32, b16] using h⟩
    | false =>
      have HB := Lib.hid (show bB c = b32 c.tsn ++ b16 c.st ++ b16 0 ++ b32 c.mid ++ b32 c.fr ++ c.body by simp [bB, HK.out, hbb])
      rw [hbb] at c1
      clear hbb
      have cc := (bC.cell 0).trans c0
      go_enter Try.func22, Try.ntmps22
      have cb := (bC.cell 18).trans e18
      have cc := (bC.cell 5).trans hC.c5
      go_wp2_with fail
      refine (u32f_calls _ _ _ _ _ _ WF (by simp)).mono ?_
      rintro e w1 ⟨rfl, W, f⟩
      replace bC := Blk.fr bC f (fun h => h.2 rfl)
      replace hC1 := hC1.fr f hsub
      replace B0 := Bl.trans B0 (Bl.of_fr f (Nat.le_trans hbw B0.size) (fun k h => h.1))
      clear WF f cc
      have WF := W
      clear W
      clear cb
      have cc := (bC.cell 6).trans hC.c6
      go_wp2_with fail
      refine (u16f_calls _ _ _ _ _ _ WF (by simp)).mono ?_
      rintro e w2 ⟨rfl, W, f⟩
      replace bC := Blk.fr bC f (fun h => h.2 rfl)
      replace hC1 := hC1.fr f hsub
      replace B0 := Bl.trans B0 (Bl.of_fr f (Nat.le_trans hbw B0.size) (fun k h => h.1))
      clear WF f cc
      have WF := W
      clear W
      have cc := (bC.cell 0).trans c0
      go_wp2_with fail
      refine (u16f_calls _ _ _ _ _ _ WF (by simp)).mono ?_
      rintro e w3 ⟨rfl, W, f⟩
      replace bC := Blk.fr bC f (fun h => h.2 rfl)
      replace hC1 := hC1.fr f hsub
      replace B0 := Bl.trans B0 (Bl.of_fr f (Nat.le_trans hbw B0.size) (fun k h => h.1))
      clear WF f cc
      have WF := W
      clear W
      have cc := (bC.cell 7).trans hC.c7
      go_wp2_with fail
      refine (u32f_calls _ _ _ _ _ _ WF (by simp)).mono ?_
      rintro e w4 ⟨rfl, W, f⟩
      replace bC := Blk.fr bC f (fun h => h.2 rfl)
      replace hC1 := hC1.fr f hsub
      replace B0 := Bl.trans B0 (Bl.of_fr f (Nat.le_trans hbw B0.size) (fun k h => h.1))
      clear WF f cc
      have WF := W
      clear W
      have cb := (bC.cell 1).trans c1
      have cc := (bC.cell 9).trans hC.c9
      go_wp2_with fail
      refine (u32f_calls _ _ _ _ _ _ WF (by simp)).mono ?_
      rintro e w5 ⟨rfl, W, f⟩
      replace bC := Blk.fr bC f (fun h => h.2 rfl)
      replace hC1 := hC1.fr f hsub
      replace B0 := Bl.trans B0 (Bl.of_fr f (Nat.le_trans hbw B0.size) (fun k h => h.1))
      clear WF f cc
      have WF := W
      clear W
      clear cb
      obtain ⟨A19, p19, e19, h19⟩ := hC1.c18
      have cc := (bC.cell 18).trans e19
      go_wp2_with fail
      refine (putf_calls _ _ _ _ _ _ _ c.body _ WF h19 (by simp; omega)).mono ?_
      rintro e w6 ⟨rfl, W, f⟩
      replace bC := Blk.fr bC f (fun h => h.2 rfl)
      replace hC1 := hC1.fr f hsub
      replace B0 := Bl.trans B0 (Bl.of_fr f (Nat.le_trans hbw B0.size) (fun k h => h.1))
      clear WF f cc
      have WF := W
      clear W
      go_wp2
      go_ret
      exact ⟨by rw [HE.out]; rfl, B0, fun _ => by rw [HB.out]; have h := WF.free; simpa [b32, b16] using h⟩
set_option maxHeartbeats 4000000 in
set_option maxRecDepth 100000 in
theorem body_6 (base g lo hi : Nat) (cs : Array Value) (c : Ck) (w : World) (W0 : WtrN w base g []) (hC : CkV w lo hi cs c) (hhi : hi ≤ base) (hBd : CkB c) (hL : CkL c) (hk : c.k = 6) :
    Calls Try.prog 22 #[.pointer (some ⟨g, 0, none⟩), .agg cs] w (BodyP w base g c) := by
  have hsz := hC.size
  have hbw : base ≤ w.heap.size := by have := W0.lt; omega
  have B0 : Below base w (w.alloc (.cells cs 31)) := (Below.refl base w).alloc hbw _
  have bC := Blk.new w cs 31
  have WF := WtrF.hold (F := only w.heap.size) W0 ((Below.refl w.heap.size w).alloc (Nat.le_refl _) (.cells cs 31)) (fun k h => by omega) (fun k h => by simp; omega)
  have hC1 := hC.fr (S := nothing) ((Fr.refl _ w).alloc (.cells cs 31)) (fun _ _ _ h => h)
  have hsub : ∀ b, lo ≤ b → b < hi → ¬ OwnF (only w.heap.size) base b := fun b _ h2 h3 => by have := h3.1; omega
  have c0 := hC.c0
  rw [hk] at c0
  have HK := Lib.hid hk
  have l18 := hL.body
  clear hk W0
  have HB := Lib.hid (show bB c = enc c.ps by simp [bB, HK.out])
  have l17 := hL.ps
  have m17 := hL.pl
  have cc := (bC.cell 0).trans c0
  go_enter Try.func22, Try.ntmps22
  obtain ⟨A17, p17, e17, h17⟩ := hC1.c17
  have cc := (bC.cell 17).trans e17
  go_wp2_with fail
  refine (Prm.put_calls _ _ A17 p17 c.ps _ h17 (Nat.le_trans hhi (Nat.le_trans hbw B0.size)) hBd.ps (by omega) (by omega)).mono ?_
  rintro e wp ⟨BP, hR⟩
  replace bC := Blk.fr bC (Fr.of_below (S := nothing) BP) id
  replace B0 := Bl.trans B0 (Bl.low BP (Nat.le_trans hbw B0.size))
  replace WF := WF.fr BP
  clear cc h17 hC1
  cases hf : allFit c.ps with
  | false =>
    rw [hf] at hR
    obtain rfl : e = _ := hR
    have HE := Lib.hid (show bE c = 43 by simp [bE, HK.out, hf])
    clear hf
    go_wp2
    go_ret
    exact ⟨by rw [HE.out]; rfl, B0, fun h => by rw [HE.out] at h; cases h⟩
  | true =>
    rw [hf] at hR
    obtain ⟨AP, cP, rfl, oP⟩ := hR
    have HE := Lib.hid (show bE c = 0 by simp [bE, HK.out, hf])
    clear hf
    go_wp2_with fail
    refine (putf_calls _ _ _ _ _ _ _ (enc c.ps) _ WF (SlB.of_own oP) (by simp; omega)).mono ?_
    rintro e wq ⟨rfl, W, f⟩
    replace B0 := Bl.trans B0 (Bl.of_fr f (Nat.le_trans hbw B0.size) (fun k h => h.1))
    clear oP f
    go_wp2
    go_ret
    exact ⟨by rw [HE.out]; rfl, B0, fun _ => by rw [HB.out]; have h := W.free; simpa [b32, b16] using h⟩
set_option maxHeartbeats 4000000 in
set_option maxRecDepth 100000 in
theorem body_9 (base g lo hi : Nat) (cs : Array Value) (c : Ck) (w : World) (W0 : WtrN w base g []) (hC : CkV w lo hi cs c) (hhi : hi ≤ base) (hBd : CkB c) (hL : CkL c) (hk : c.k = 9) :
    Calls Try.prog 22 #[.pointer (some ⟨g, 0, none⟩), .agg cs] w (BodyP w base g c) := by
  have hsz := hC.size
  have hbw : base ≤ w.heap.size := by have := W0.lt; omega
  have B0 : Below base w (w.alloc (.cells cs 31)) := (Below.refl base w).alloc hbw _
  have bC := Blk.new w cs 31
  have WF := WtrF.hold (F := only w.heap.size) W0 ((Below.refl w.heap.size w).alloc (Nat.le_refl _) (.cells cs 31)) (fun k h => by omega) (fun k h => by simp; omega)
  have hC1 := hC.fr (S := nothing) ((Fr.refl _ w).alloc (.cells cs 31)) (fun _ _ _ h => h)
  have hsub : ∀ b, lo ≤ b → b < hi → ¬ OwnF (only w.heap.size) base b := fun b _ h2 h3 => by have := h3.1; omega
  have c0 := hC.c0
  rw [hk] at c0
  have HK := Lib.hid hk
  have l18 := hL.body
  clear hk W0
  have HB := Lib.hid (show bB c = enc c.ps by simp [bB, HK.out])
  have l17 := hL.ps
  have m17 := hL.pl
  have cc := (bC.cell 0).trans c0
  go_enter Try.func22, Try.ntmps22
  obtain ⟨A17, p17, e17, h17⟩ := hC1.c17
  have cc := (bC.cell 17).trans e17
  go_wp2_with fail
  refine (Prm.put_calls _ _ A17 p17 c.ps _ h17 (Nat.le_trans hhi (Nat.le_trans hbw B0.size)) hBd.ps (by omega) (by omega)).mono ?_
  rintro e wp ⟨BP, hR⟩
  replace bC := Blk.fr bC (Fr.of_below (S := nothing) BP) id
  replace B0 := Bl.trans B0 (Bl.low BP (Nat.le_trans hbw B0.size))
  replace WF := WF.fr BP
  clear cc h17 hC1
  cases hf : allFit c.ps with
  | false =>
    rw [hf] at hR
    obtain rfl : e = _ := hR
    have HE := Lib.hid (show bE c = 43 by simp [bE, HK.out, hf])
    clear hf
    go_wp2
    go_ret
    exact ⟨by rw [HE.out]; rfl, B0, fun h => by rw [HE.out] at h; cases h⟩
  | true =>
    rw [hf] at hR
    obtain ⟨AP, cP, rfl, oP⟩ := hR
    have HE := Lib.hid (show bE c = 0 by simp [bE, HK.out, hf])
    clear hf
    go_wp2_with fail
    refine (putf_calls _ _ _ _ _ _ _ (enc c.ps) _ WF (SlB.of_own oP) (by simp; omega)).mono ?_
    rintro e wq ⟨rfl, W, f⟩
    replace B0 := Bl.trans B0 (Bl.of_fr f (Nat.le_trans hbw B0.size) (fun k h => h.1))
    clear oP f
    go_wp2
    go_ret
    exact ⟨by rw [HE.out]; rfl, B0, fun _ => by rw [HB.out]; have h := W.free; simpa [b32, b16] using h⟩
set_option maxHeartbeats 4000000 in
set_option maxRecDepth 100000 in
theorem body_130 (base g lo hi : Nat) (cs : Array Value) (c : Ck) (w : World) (W0 : WtrN w base g []) (hC : CkV w lo hi cs c) (hhi : hi ≤ base) (hBd : CkB c) (hL : CkL c) (hk : c.k = 130) :
    Calls Try.prog 22 #[.pointer (some ⟨g, 0, none⟩), .agg cs] w (BodyP w base g c) := by
  have hsz := hC.size
  have hbw : base ≤ w.heap.size := by have := W0.lt; omega
  have B0 : Below base w (w.alloc (.cells cs 31)) := (Below.refl base w).alloc hbw _
  have bC := Blk.new w cs 31
  have WF := WtrF.hold (F := only w.heap.size) W0 ((Below.refl w.heap.size w).alloc (Nat.le_refl _) (.cells cs 31)) (fun k h => by omega) (fun k h => by simp; omega)
  have hC1 := hC.fr (S := nothing) ((Fr.refl _ w).alloc (.cells cs 31)) (fun _ _ _ h => h)
  have hsub : ∀ b, lo ≤ b → b < hi → ¬ OwnF (only w.heap.size) base b := fun b _ h2 h3 => by have := h3.1; omega
  have c0 := hC.c0
  rw [hk] at c0
  have HK := Lib.hid hk
  have l18 := hL.body
  clear hk W0
  have HB := Lib.hid (show bB c = enc c.ps by simp [bB, HK.out])
  have l17 := hL.ps
  have m17 := hL.pl
  have cc := (bC.cell 0).trans c0
  go_enter Try.func22, Try.ntmps22
  obtain ⟨A17, p17, e17, h17⟩ := hC1.c17
  have cc := (bC.cell 17).trans e17
  go_wp2_with fail
  refine (Prm.put_calls _ _ A17 p17 c.ps _ h17 (Nat.le_trans hhi (Nat.le_trans hbw B0.size)) hBd.ps (by omega) (by omega)).mono ?_
  rintro e wp ⟨BP, hR⟩
  replace bC := Blk.fr bC (Fr.of_below (S := nothing) BP) id
  replace B0 := Bl.trans B0 (Bl.low BP (Nat.le_trans hbw B0.size))
  replace WF := WF.fr BP
  clear cc h17 hC1
  cases hf : allFit c.ps with
  | false =>
    rw [hf] at hR
    obtain rfl : e = _ := hR
    have HE := Lib.hid (show bE c = 43 by simp [bE, HK.out, hf])
    clear hf
    go_wp2
    go_ret
    exact ⟨by rw [HE.out]; rfl, B0, fun h => by rw [HE.out] at h; cases h⟩
  | true =>
    rw [hf] at hR
    obtain ⟨AP, cP, rfl, oP⟩ := hR
    have HE := Lib.hid (show bE c = 0 by simp [bE, HK.out, hf])
    clear hf
    go_wp2_with fail
    refine (putf_calls _ _ _ _ _ _ _ (enc c.ps) _ WF (SlB.of_own oP) (by simp; omega)).mono ?_
    rintro e wq ⟨rfl, W, f⟩
    replace B0 := Bl.trans B0 (Bl.of_fr f (Nat.le_trans hbw B0.size) (fun k h => h.1))
    clear oP f
    go_wp2
    go_ret
    exact ⟨by rw [HE.out]; rfl, B0, fun _ => by rw [HB.out]; have h := W.free; simpa [b32, b16] using h⟩
set_option maxHeartbeats 4000000 in
set_option maxRecDepth 100000 in
theorem body_1 (base g lo hi : Nat) (cs : Array Value) (c : Ck) (w : World) (W0 : WtrN w base g []) (hC : CkV w lo hi cs c) (hhi : hi ≤ base) (hBd : CkB c) (hL : CkL c) (hk : c.k = 1) :
    Calls Try.prog 22 #[.pointer (some ⟨g, 0, none⟩), .agg cs] w (BodyP w base g c) := by
  have hsz := hC.size
  have hbw : base ≤ w.heap.size := by have := W0.lt; omega
  have B0 : Below base w (w.alloc (.cells cs 31)) := (Below.refl base w).alloc hbw _
  have bC := Blk.new w cs 31
  have WF := WtrF.hold (F := only w.heap.size) W0 ((Below.refl w.heap.size w).alloc (Nat.le_refl _) (.cells cs 31)) (fun k h => by omega) (fun k h => by simp; omega)
  have hC1 := hC.fr (S := nothing) ((Fr.refl _ w).alloc (.cells cs 31)) (fun _ _ _ h => h)
  have hsub : ∀ b, lo ≤ b → b < hi → ¬ OwnF (only w.heap.size) base b := fun b _ h2 h3 => by have := h3.1; omega
  have c0 := hC.c0
  rw [hk] at c0
  have HK := Lib.hid hk
  have l18 := hL.body
  clear hk W0
  have HB := Lib.hid (show bB c = b32 c.tag ++ b32 c.win ++ b16 c.out ++ b16 c.inn ++ b32 c.tsn ++ enc c.ps by simp [bB, HK.out])
  have l17 := hL.ps
  have m17 := hL.pl
  have cc := (bC.cell 0).trans c0
  go_enter Try.func22, Try.ntmps22
  have cc := (bC.cell 10).trans hC.c10
  go_wp2_with fail
  refine (u32f_calls _ _ _ _ _ _ WF (by simp)).mono ?_
  rintro e w1 ⟨rfl, W, f⟩
  replace bC := Blk.fr bC f (fun h => h.2 rfl)
  replace hC1 := hC1.fr f hsub
  replace B0 := Bl.trans B0 (Bl.of_fr f (Nat.le_trans hbw B0.size) (fun k h => h.1))
  clear WF f cc
  have WF := W
  clear W
  have cc := (bC.cell 11).trans hC.c11
  go_wp2_with fail
  refine (u32f_calls _ _ _ _ _ _ WF (by simp)).mono ?_
  rintro e w2 ⟨rfl, W, f⟩
  replace bC := Blk.fr bC f (fun h => h.2 rfl)
  replace hC1 := hC1.fr f hsub
  replace B0 := Bl.trans B0 (Bl.of_fr f (Nat.le_trans hbw B0.size) (fun k h => h.1))
  clear WF f cc
  have WF := W
  clear W
  have cc := (bC.cell 12).trans hC.c12
  go_wp2_with fail
  refine (u16f_calls _ _ _ _ _ _ WF (by simp)).mono ?_
  rintro e w3 ⟨rfl, W, f⟩
  replace bC := Blk.fr bC f (fun h => h.2 rfl)
  replace hC1 := hC1.fr f hsub
  replace B0 := Bl.trans B0 (Bl.of_fr f (Nat.le_trans hbw B0.size) (fun k h => h.1))
  clear WF f cc
  have WF := W
  clear W
  have cc := (bC.cell 13).trans hC.c13
  go_wp2_with fail
  refine (u16f_calls _ _ _ _ _ _ WF (by simp)).mono ?_
  rintro e w4 ⟨rfl, W, f⟩
  replace bC := Blk.fr bC f (fun h => h.2 rfl)
  replace hC1 := hC1.fr f hsub
  replace B0 := Bl.trans B0 (Bl.of_fr f (Nat.le_trans hbw B0.size) (fun k h => h.1))
  clear WF f cc
  have WF := W
  clear W
  have cc := (bC.cell 5).trans hC.c5
  go_wp2_with fail
  refine (u32f_calls _ _ _ _ _ _ WF (by simp)).mono ?_
  rintro e w5 ⟨rfl, W, f⟩
  replace bC := Blk.fr bC f (fun h => h.2 rfl)
  replace hC1 := hC1.fr f hsub
  replace B0 := Bl.trans B0 (Bl.of_fr f (Nat.le_trans hbw B0.size) (fun k h => h.1))
  clear WF f cc
  have WF := W
  clear W
  obtain ⟨A17, p17, e17, h17⟩ := hC1.c17
  have cc := (bC.cell 17).trans e17
  go_wp2_with fail
  refine (Prm.put_calls _ _ A17 p17 c.ps _ h17 (Nat.le_trans hhi (Nat.le_trans hbw B0.size)) hBd.ps (by omega) (by omega)).mono ?_
  rintro e wp ⟨BP, hR⟩
  replace bC := Blk.fr bC (Fr.of_below (S := nothing) BP) id
  replace B0 := Bl.trans B0 (Bl.low BP (Nat.le_trans hbw B0.size))
  replace WF := WF.fr BP
  clear cc h17 hC1
  cases hf : allFit c.ps with
  | false =>
    rw [hf] at hR
    obtain rfl : e = _ := hR
    have HE := Lib.hid (show bE c = 43 by simp [bE, HK.out, hf])
    clear hf
    go_wp2
    go_ret
    exact ⟨by rw [HE.out]; rfl, B0, fun h => by rw [HE.out] at h; cases h⟩
  | true =>
    rw [hf] at hR
    obtain ⟨AP, cP, rfl, oP⟩ := hR
    have HE := Lib.hid (show bE c = 0 by simp [bE, HK.out, hf])
    clear hf
    go_wp2_with fail
    refine (putf_calls _ _ _ _ _ _ _ (enc c.ps) _ WF (SlB.of_own oP) (by simp; omega)).mono ?_
    rintro e wq ⟨rfl, W, f⟩
    replace B0 := Bl.trans B0 (Bl.of_fr f (Nat.le_trans hbw B0.size) (fun k h => h.1))
    clear oP f
    go_wp2
    go_ret
    exact ⟨by rw [HE.out]; rfl, B0, fun _ => by rw [HB.out]; have h := W.free; simpa [b32, b16] using h⟩
set_option maxHeartbeats 4000000 in
set_option maxRecDepth 100000 in
theorem body_2 (base g lo hi : Nat) (cs : Array Value) (c : Ck) (w : World) (W0 : WtrN w base g []) (hC : CkV w lo hi cs c) (hhi : hi ≤ base) (hBd : CkB c) (hL : CkL c) (hk : c.k = 2) :
    Calls Try.prog 22 #[.pointer (some ⟨g, 0, none⟩), .agg cs] w (BodyP w base g c) := by
  have hsz := hC.size
  have hbw : base ≤ w.heap.size := by have := W0.lt; omega
  have B0 : Below base w (w.alloc (.cells cs 31)) := (Below.refl base w).alloc hbw _
  have bC := Blk.new w cs 31
  have WF := WtrF.hold (F := only w.heap.size) W0 ((Below.refl w.heap.size w).alloc (Nat.le_refl _) (.cells cs 31)) (fun k h => by omega) (fun k h => by simp; omega)
  have hC1 := hC.fr (S := nothing) ((Fr.refl _ w).alloc (.cells cs 31)) (fun _ _ _ h => h)
  have hsub : ∀ b, lo ≤ b → b < hi → ¬ OwnF (only w.heap.size) base b := fun b _ h2 h3 => by have := h3.1; omega
  have c0 := hC.c0
  rw [hk] at c0
  have HK := Lib.hid hk
  have l18 := hL.body
  clear hk W0
  have HB := Lib.hid (show bB c = b32 c.tag ++ b32 c.win ++ b16 c.out ++ b16 c.inn ++ b32 c.tsn ++ enc c.ps by simp [bB, HK.out])
  have l17 := hL.ps
  have m17 := hL.pl
  have cc := (bC.cell 0).trans c0
  go_enter Try.func22, Try.ntmps22
  have cc := (bC.cell 10).trans hC.c10
  go_wp2_with fail
  refine (u32f_calls _ _ _ _ _ _ WF (by simp)).mono ?_
  rintro e w1 ⟨rfl, W, f⟩
  replace bC := Blk.fr bC f (fun h => h.2 rfl)
  replace hC1 := hC1.fr f hsub
  replace B0 := Bl.trans B0 (Bl.of_fr f (Nat.le_trans hbw B0.size) (fun k h => h.1))
  clear WF f cc
  have WF := W
  clear W
  have cc := (bC.cell 11).trans hC.c11
  go_wp2_with fail
  refine (u32f_calls _ _ _ _ _ _ WF (by simp)).mono ?_
  rintro e w2 ⟨rfl, W, f⟩
  replace bC := Blk.fr bC f (fun h => h.2 rfl)
  replace hC1 := hC1.fr f hsub
  replace B0 := Bl.trans B0 (Bl.of_fr f (Nat.le_trans hbw B0.size) (fun k h => h.1))
  clear WF f cc
  have WF := W
  clear W
  have cc := (bC.cell 12).trans hC.c12
  go_wp2_with fail
  refine (u16f_calls _ _ _ _ _ _ WF (by simp)).mono ?_
  rintro e w3 ⟨rfl, W, f⟩
  replace bC := Blk.fr bC f (fun h => h.2 rfl)
  replace hC1 := hC1.fr f hsub
  replace B0 := Bl.trans B0 (Bl.of_fr f (Nat.le_trans hbw B0.size) (fun k h => h.1))
  clear WF f cc
  have WF := W
  clear W
  have cc := (bC.cell 13).trans hC.c13
  go_wp2_with fail
  refine (u16f_calls _ _ _ _ _ _ WF (by simp)).mono ?_
  rintro e w4 ⟨rfl, W, f⟩
  replace bC := Blk.fr bC f (fun h => h.2 rfl)
  replace hC1 := hC1.fr f hsub
  replace B0 := Bl.trans B0 (Bl.of_fr f (Nat.le_trans hbw B0.size) (fun k h => h.1))
  clear WF f cc
  have WF := W
  clear W
  have cc := (bC.cell 5).trans hC.c5
  go_wp2_with fail
  refine (u32f_calls _ _ _ _ _ _ WF (by simp)).mono ?_
  rintro e w5 ⟨rfl, W, f⟩
  replace bC := Blk.fr bC f (fun h => h.2 rfl)
  replace hC1 := hC1.fr f hsub
  replace B0 := Bl.trans B0 (Bl.of_fr f (Nat.le_trans hbw B0.size) (fun k h => h.1))
  clear WF f cc
  have WF := W
  clear W
  obtain ⟨A17, p17, e17, h17⟩ := hC1.c17
  have cc := (bC.cell 17).trans e17
  go_wp2_with fail
  refine (Prm.put_calls _ _ A17 p17 c.ps _ h17 (Nat.le_trans hhi (Nat.le_trans hbw B0.size)) hBd.ps (by omega) (by omega)).mono ?_
  rintro e wp ⟨BP, hR⟩
  replace bC := Blk.fr bC (Fr.of_below (S := nothing) BP) id
  replace B0 := Bl.trans B0 (Bl.low BP (Nat.le_trans hbw B0.size))
  replace WF := WF.fr BP
  clear cc h17 hC1
  cases hf : allFit c.ps with
  | false =>
    rw [hf] at hR
    obtain rfl : e = _ := hR
    have HE := Lib.hid (show bE c = 43 by simp [bE, HK.out, hf])
    clear hf
    go_wp2
    go_ret
    exact ⟨by rw [HE.out]; rfl, B0, fun h => by rw [HE.out] at h; cases h⟩
  | true =>
    rw [hf] at hR
    obtain ⟨AP, cP, rfl, oP⟩ := hR
    have HE := Lib.hid (show bE c = 0 by simp [bE, HK.out, hf])
    clear hf
    go_wp2_with fail
    refine (putf_calls _ _ _ _ _ _ _ (enc c.ps) _ WF (SlB.of_own oP) (by simp; omega)).mono ?_
    rintro e wq ⟨rfl, W, f⟩
    replace B0 := Bl.trans B0 (Bl.of_fr f (Nat.le_trans hbw B0.size) (fun k h => h.1))
    clear oP f
    go_wp2
    go_ret
    exact ⟨by rw [HE.out]; rfl, B0, fun _ => by rw [HB.out]; have h := W.free; simpa [b32, b16] using h⟩
theorem wrbt (y : Bool) : IntKind.u16.wrap (bt y 1) = bt y 1 := by cases y <;> rfl
set_option maxHeartbeats 4000000 in
set_option maxRecDepth 100000 in
theorem body_192 (base g lo hi : Nat) (cs : Array Value) (c : Ck) (w : World) (W0 : WtrN w base g []) (hC : CkV w lo hi cs c) (hhi : hi ≤ base) (hBd : CkB c) (hL : CkL c) (hk : c.k = 192) :
    Calls Try.prog 22 #[.pointer (some ⟨g, 0, none⟩), .agg cs] w (BodyP w base g c) := by
  have hsz := hC.size
  have hbw : base ≤ w.heap.size := by have := W0.lt; omega
  have B0 : Below base w (w.alloc (.cells cs 31)) := (Below.refl base w).alloc hbw _
  have bC := Blk.new w cs 31
  have WF := WtrF.hold (F := only w.heap.size) W0 ((Below.refl w.heap.size w).alloc (Nat.le_refl _) (.cells cs 31)) (fun k h => by omega) (fun k h => by simp; omega)
  have hC1 := hC.fr (S := nothing) ((Fr.refl _ w).alloc (.cells cs 31)) (fun _ _ _ h => h)
  have hsub : ∀ b, lo ≤ b → b < hi → ¬ OwnF (only w.heap.size) base b := fun b _ h2 h3 => by have := h3.1; omega
  have c0 := hC.c0
  rw [hk] at c0
  have HK := Lib.hid hk
  have l18 := hL.body
  clear hk W0
  have HE := Lib.hid (show bE c = 0 by simp [bE, HK.out])
  have HB := Lib.hid (show bB c = b32 c.tsn ++ sB c.skips by simp [bB, HK.out])
  have l16 := hL.skips
  have hbs := hBd.skips
  have cc := (bC.cell 0).trans c0
  go_enter Try.func22, Try.ntmps22
  have cc := (bC.cell 5).trans hC.c5
  go_wp2_with fail
  refine (u32f_calls _ _ _ _ _ _ WF (by simp)).mono ?_
  rintro e w1 ⟨rfl, W, f⟩
  replace bC := Blk.fr bC f (fun h => h.2 rfl)
  replace hC1 := hC1.fr f hsub
  replace B0 := Bl.trans B0 (Bl.of_fr f (Nat.le_trans hbw B0.size) (fun k h => h.1))
  clear WF f cc
  have WF := W
  clear W
  obtain ⟨A16, p16, e16, S16⟩ := hC1.c16
  have cc := (bC.cell 16).trans e16
  have WP : WtrF (only w.heap.size) w1 base g (b32 c.tsn) := by simpa [b32] using WF
  have hPl := b32_len c.tsn
  generalize b32 c.tsn = P at WP HB hPl
  clear WF hC1
  go_wp2_with fail
  go_loopw [152] (fun i wr => ∃ j : Nat, j ≤ c.skips.length ∧ i = .int .i64 j ∧ WtrF (only w.heap.size) wr base g (P ++ sB (c.skips.take j)) ∧ SkpC wr lo hi A16 c.skips ∧ Blk wr w.heap.size 31 cs ∧ Below base w wr) (fun i _ => c.skips.length - (intOf i).toNat)
  case atStart => exact ⟨0, Nat.zero_le _, rfl, by simpa [sB] using WP, S16, bC, B0⟩
  case round =>
    clear WP S16 bC B0 cc
    obtain ⟨j, hj, rfl, WF, S16, bC, B0⟩ := hrel
    by_cases hlt : j < c.skips.length
    · obtain ⟨ad, rfl, h1, h2, h3, h4, h5⟩ := S16 j hlt
      have hS := hbs _ (List.getElem_mem hlt)
      have HT := Lib.hid (sB_take c.skips j hlt)
      have hLL := sB_len (c.skips.take j)
      rw [List.length_take] at hLL
      generalize c.skips[j] = s at h3 h4 h5 hS HT
      obtain ⟨x, y, z⟩ := s
      have hx : 0 ≤ x ∧ x < 65536 := hS.1
      have hzz : 0 ≤ z ∧ z < 4294967296 := hS.2
      rw [add_add_ _ _ _ (by decide)] at h4 h5
      replace h3 : wr.cell? (ad.add (j * 3)) = some (.int .u16 x) := h3
      replace h4 : wr.cell? ⟨(ad.add (j * 3)).block, (ad.add (j * 3)).off + 1, none⟩ = some (.bool y) := h4
      replace h5 : wr.cell? ⟨(ad.add (j * 3)).block, (ad.add (j * 3)).off + 2, none⟩ = some (.int .u32 z) := h5
      have hjl : (j : Int) < c.skips.length := by omega
      have bS := Blk.new wr #[.int .u16 x, .bool y, .int .u32 z] 75
      have hgs : w.heap.size ≤ wr.heap.size := B0.size
      have WF2 := WtrF.hold2 (F' := fun k => k = w.heap.size ∨ k = wr.heap.size) WF ((Below.refl wr.heap.size wr).alloc (Nat.le_refl _) (.cells #[.int .u16 x, .bool y, .int .u32 z] 75)) (fun k h => by rcases h with h | h; exact .inl h; exact .inr ⟨by omega, by simp; omega⟩)
      replace bC := bC.alloc (.cells #[.int .u16 x, .bool y, .int .u32 z] 75)
      replace S16 := S16.fr (S := nothing) ((Fr.refl _ wr).alloc (.cells #[.int .u16 x, .bool y, .int .u32 z] 75)) (fun _ _ _ h => h)
      replace B0 := B0.alloc (Nat.le_trans hbw B0.size) (.cells #[.int .u16 x, .bool y, .int .u32 z] 75)
      have hsub2 : ∀ b, lo ≤ b → b < hi → ¬ OwnF (fun k => k = w.heap.size ∨ k = wr.heap.size) base b := fun b _ h2 h3 => by have := h3.1; omega
      clear WF hS
      have WF := WF2
      clear WF2
      go_wp2_with fail
      refine (u16f_calls _ _ _ _ _ _ WF (by simp; omega)).mono ?_
      rintro e w2 ⟨rfl, W, f⟩
      replace bS := Blk.fr bS f (fun h => h.2 (.inr rfl))
      replace bC := Blk.fr bC f (fun h => h.2 (.inl rfl))
      replace S16 := S16.fr f hsub2
      replace B0 := Bl.trans B0 (Bl.of_fr f (Nat.le_trans hbw B0.size) (fun k h => h.1))
      have cS0 := bS.cell 0
      have cS1 := bS.cell 1
      have cS2 := bS.cell 2
      simp at cS0 cS1 cS2
      have cc := (bC.cell 0).trans c0
      clear WF f
      have WF := W
      clear W
      clear h3 h4 h5
      go_wp2_with fail
      refine (u16f_calls _ _ _ _ _ _ WF (by simp; omega)).mono ?_
      rintro e w3 ⟨rfl, W, f⟩
      replace bS := Blk.fr bS f (fun h => h.2 (.inr rfl))
      replace bC := Blk.fr bC f (fun h => h.2 (.inl rfl))
      replace S16 := S16.fr f hsub2
      replace B0 := Bl.trans B0 (Bl.of_fr f (Nat.le_trans hbw B0.size) (fun k h => h.1))
      have cS0 := bS.cell 0
      have cS1 := bS.cell 1
      have cS2 := bS.cell 2
      simp at cS0 cS1 cS2
      have cc := (bC.cell 0).trans c0
      clear WF f
      have WF := W
      clear W
      have WN := WtrF.less (F := only w.heap.size) WF (fun k h => .inl h)
      have HW := Lib.hid (show WtrF (only w.heap.size) _ base g (P ++ sB (c.skips.take (j + 1))) by rw [HT.out]; simpa [b16, b32, wr16 _ hzz, wrbt, List.append_assoc] using WN)
      have HS := Lib.hid S16
      have HBC := Lib.hid bC
      have HB0 := Lib.hid B0
      clear WN WF S16 bC B0 bS cS0 cS1 cS2 cc HT hsub2
      go_wp2
      go_roundw
      case rel => exact ⟨j + 1, by omega, by go_num, HW.out, HS.out, HBC.out, HB0.out⟩
      case measure => simp [intOf]; omega
    · obtain rfl : j = c.skips.length := by omega
      rw [List.take_length] at WF
      have hjl : ¬ ((c.skips.length : Nat) : Int) < c.skips.length := by omega
      go_wp2
      go_ret
      exact ⟨by rw [HE.out]; rfl, B0, fun _ => by rw [HB.out]; exact WF.free⟩
set_option maxHeartbeats 4000000 in
set_option maxRecDepth 100000 in
theorem body_194 (base g lo hi : Nat) (cs : Array Value) (c : Ck) (w : World) (W0 : WtrN w base g []) (hC : CkV w lo hi cs c) (hhi : hi ≤ base) (hBd : CkB c) (hL : CkL c) (hk : c.k = 194) :
    Calls Try.prog 22 #[.pointer (some ⟨g, 0, none⟩), .agg cs] w (BodyP w base g c) := by
  have hsz := hC.size
  have hbw : base ≤ w.heap.size := by have := W0.lt; omega
  have B0 : Below base w (w.alloc (.cells cs 31)) := (Below.refl base w).alloc hbw _
  have bC := Blk.new w cs 31
  have WF := WtrF.hold (F := only w.heap.size) W0 ((Below.refl w.heap.size w).alloc (Nat.le_refl _) (.cells cs 31)) (fun k h => by omega) (fun k h => by simp; omega)
  have hC1 := hC.fr (S := nothing) ((Fr.refl _ w).alloc (.cells cs 31)) (fun _ _ _ h => h)
  have hsub : ∀ b, lo ≤ b → b < hi → ¬ OwnF (only w.heap.size) base b := fun b _ h2 h3 => by have := h3.1; omega
  have c0 := hC.c0
  rw [hk] at c0
  have HK := Lib.hid hk
  have l18 := hL.body
  clear hk W0
  have HE := Lib.hid (show bE c = 0 by simp [bE, HK.out])
  have HB := Lib.hid (show bB c = b32 c.tsn ++ tB c.skips by simp [bB, HK.out])
  have l16 := hL.skips
  have hbs := hBd.skips
  have cc := (bC.cell 0).trans c0
  go_enter Try.func22, Try.ntmps22
  have cc := (bC.cell 5).trans hC.c5
  go_wp2_with fail
  refine (u32f_calls _ _ _ _ _ _ WF (by simp)).mono ?_
  rintro e w1 ⟨rfl, W, f⟩
  replace bC := Blk.fr bC f (fun h => h.2 rfl)
  replace hC1 := hC1.fr f hsub
  replace B0 := Bl.trans B0 (Bl.of_fr f (Nat.le_trans hbw B0.size) (fun k h => h.1))
  clear WF f cc
  have WF := W
  clear W
  obtain ⟨A16, p16, e16, S16⟩ := hC1.c16
  have cc := (bC.cell 16).trans e16
  have WP : WtrF (only w.heap.size) w1 base g (b32 c.tsn) := by simpa [b32] using WF
  have hPl := b32_len c.tsn
  generalize b32 c.tsn = P at WP HB hPl
  clear WF hC1
  go_wp2_with fail
  go_loopw [152] (fun i wr => ∃ j : Nat, j ≤ c.skips.length ∧ i = .int .i64 j ∧ WtrF (only w.heap.size) wr base g (P ++ tB (c.skips.take j)) ∧ SkpC wr lo hi A16 c.skips ∧ Blk wr w.heap.size 31 cs ∧ Below base w wr) (fun i _ => c.skips.length - (intOf i).toNat)
  case atStart => exact ⟨0, Nat.zero_le _, rfl, by simpa [tB] using WP, S16, bC, B0⟩
  case round =>
    clear WP S16 bC B0 cc
    obtain ⟨j, hj, rfl, WF, S16, bC, B0⟩ := hrel
    by_cases hlt : j < c.skips.length
    · obtain ⟨ad, rfl, h1, h2, h3, h4, h5⟩ := S16 j hlt
      have hS := hbs _ (List.getElem_mem hlt)
      have HT := Lib.hid (tB_take c.skips j hlt)
      have hLL := tB_len (c.skips.take j)
      rw [List.length_take] at hLL
      generalize c.skips[j] = s at h3 h4 h5 hS HT
      obtain ⟨x, y, z⟩ := s
      have hx : 0 ≤ x ∧ x < 65536 := hS.1
      have hzz : 0 ≤ z ∧ z < 4294967296 := hS.2
      rw [add_add_ _ _ _ (by decide)] at h4 h5
      replace h3 : wr.cell? (ad.add (j * 3)) = some (.int .u16 x) := h3
      replace h4 : wr.cell? ⟨(ad.add (j * 3)).block, (ad.add (j * 3)).off + 1, none⟩ = some (.bool y) := h4
      replace h5 : wr.cell? ⟨(ad.add (j * 3)).block, (ad.add (j * 3)).off + 2, none⟩ = some (.int .u32 z) := h5
      have hjl : (j : Int) < c.skips.length := by omega
      have bS := Blk.new wr #[.int .u16 x, .bool y, .int .u32 z] 75
      have hgs : w.heap.size ≤ wr.heap.size := B0.size
      have WF2 := WtrF.hold2 (F' := fun k => k = w.heap.size ∨ k = wr.heap.size) WF ((Below.refl wr.heap.size wr).alloc (Nat.le_refl _) (.cells #[.int .u16 x, .bool y, .int .u32 z] 75)) (fun k h => by rcases h with h | h; exact .inl h; exact .inr ⟨by omega, by simp; omega⟩)
      replace bC := bC.alloc (.cells #[.int .u16 x, .bool y, .int .u32 z] 75)
      replace S16 := S16.fr (S := nothing) ((Fr.refl _ wr).alloc (.cells #[.int .u16 x, .bool y, .int .u32 z] 75)) (fun _ _ _ h => h)
      replace B0 := B0.alloc (Nat.le_trans hbw B0.size) (.cells #[.int .u16 x, .bool y, .int .u32 z] 75)
      have hsub2 : ∀ b, lo ≤ b → b < hi → ¬ OwnF (fun k => k = w.heap.size ∨ k = wr.heap.size) base b := fun b _ h2 h3 => by have := h3.1; omega
      clear WF hS
      have WF := WF2
      clear WF2
      go_wp2_with fail
      refine (u16f_calls _ _ _ _ _ _ WF (by simp; omega)).mono ?_
      rintro e w2 ⟨rfl, W, f⟩
      replace bS := Blk.fr bS f (fun h => h.2 (.inr rfl))
      replace bC := Blk.fr bC f (fun h => h.2 (.inl rfl))
      replace S16 := S16.fr f hsub2
      replace B0 := Bl.trans B0 (Bl.of_fr f (Nat.le_trans hbw B0.size) (fun k h => h.1))
      have cS0 := bS.cell 0
      have cS1 := bS.cell 1
      have cS2 := bS.cell 2
      simp at cS0 cS1 cS2
      have cc := (bC.cell 0).trans c0
      clear WF f
      have WF := W
      clear W
      clear h3 h4 h5
      go_wp2_with fail
      refine (bit_calls _ _ _).mono ?_
      rintro e wb ⟨rfl, rfl⟩
      go_wp2_with fail
      refine (u16f_calls _ _ _ _ _ _ WF (by simp; omega)).mono ?_
      rintro e w3 ⟨rfl, W, f⟩
      replace bS := Blk.fr bS f (fun h => h.2 (.inr rfl))
      replace bC := Blk.fr bC f (fun h => h.2 (.inl rfl))
      replace S16 := S16.fr f hsub2
      replace B0 := Bl.trans B0 (Bl.of_fr f (Nat.le_trans hbw B0.size) (fun k h => h.1))
      have cS0 := bS.cell 0
      have cS1 := bS.cell 1
      have cS2 := bS.cell 2
      simp at cS0 cS1 cS2
      have cc := (bC.cell 0).trans c0
      clear WF f
      have WF := W
      clear W
      go_wp2_with fail
      refine (u32f_calls _ _ _ _ _ _ WF (by simp; omega)).mono ?_
      rintro e w4 ⟨rfl, W, f⟩
      replace bS := Blk.fr bS f (fun h => h.2 (.inr rfl))
      replace bC := Blk.fr bC f (fun h => h.2 (.inl rfl))
      replace S16 := S16.fr f hsub2
      replace B0 := Bl.trans B0 (Bl.of_fr f (Nat.le_trans hbw B0.size) (fun k h => h.1))
      have cS0 := bS.cell 0
      have cS1 := bS.cell 1
      have cS2 := bS.cell 2
      simp at cS0 cS1 cS2
      have cc := (bC.cell 0).trans c0
      clear WF f
      have WF := W
      clear W
      have WN := WtrF.less (F := only w.heap.size) WF (fun k h => .inl h)
      have HW := Lib.hid (show WtrF (only w.heap.size) _ base g (P ++ tB (c.skips.take (j + 1))) by rw [HT.out]; simpa [b16, b32, wr16 _ hzz, wrbt, List.append_assoc] using WN)
      have HS := Lib.hid S16
      have HBC := Lib.hid bC
      have HB0 := Lib.hid B0
      clear WN WF S16 bC B0 bS cS0 cS1 cS2 cc HT hsub2
      go_wp2
      go_roundw
      case rel => exact ⟨j + 1, by omega, by go_num, HW.out, HS.out, HBC.out, HB0.out⟩
      case measure => simp [intOf]; omega
    · obtain rfl : j = c.skips.length := by omega
      rw [List.take_length] at WF
      have hjl : ¬ ((c.skips.length : Nat) : Int) < c.skips.length := by omega
      go_wp2
      go_ret
      exact ⟨by rw [HE.out]; rfl, B0, fun _ => by rw [HB.out]; exact WF.free⟩
set_option maxHeartbeats 4000000 in
set_option maxRecDepth 100000 in
theorem body_3 (base g lo hi : Nat) (cs : Array Value) (c : Ck) (w : World) (W0 : WtrN w base g []) (hC : CkV w lo hi cs c) (hhi : hi ≤ base) (hBd : CkB c) (hL : CkL c) (hk : c.k = 3) :
    Calls Try.prog 22 #[.pointer (some ⟨g, 0, none⟩), .agg cs] w (BodyP w base g c) := by
  have hsz := hC.size
  have hbw : base ≤ w.heap.size := by have := W0.lt; omega
  have B0 : Below base w (w.alloc (.cells cs 31)) := (Below.refl base w).alloc hbw _
  have bC := Blk.new w cs 31
  have WF := WtrF.hold (F := only w.heap.size) W0 ((Below.refl w.heap.size w).alloc (Nat.le_refl _) (.cells cs 31)) (fun k h => by omega) (fun k h => by simp; omega)
  have hC1 := hC.fr (S := nothing) ((Fr.refl _ w).alloc (.cells cs 31)) (fun _ _ _ h => h)
  have hsub : ∀ b, lo ≤ b → b < hi → ¬ OwnF (only w.heap.size) base b := fun b _ h2 h3 => by have := h3.1; omega
  have c0 := hC.c0
  rw [hk] at c0
  have HK := Lib.hid hk
  have l18 := hL.body
  clear hk W0
  have l14 := hL.gaps
  have l15 := hL.dups
  obtain ⟨A14, p14, e14, G14⟩ := hC1.c14
  obtain ⟨A15, p15, e15, D15⟩ := hC1.c15
  by_cases hg : 65535 < c.gaps.length
  · have HE := Lib.hid (show bE c = 43 by simp [bE, HK.out, hg])
    have hgd : decide ((65535 : Int) < c.gaps.length) = true := decide_eq_true (by omega)
    clear hg
    have cc := (bC.cell 0).trans c0
    go_enter Try.func22, Try.ntmps22
    have cc := (bC.cell 14).trans e14
    have cd := (bC.cell 15).trans e15
    go_wp2_with fail
    refine (long_calls _ _).mono ?_
    rintro e wl ⟨rfl, rfl⟩
    go_wp2
    go_ret
    exact ⟨by rw [HE.out]; rfl, B0, fun h => by rw [HE.out] at h; cases h⟩
  have hgd : decide ((65535 : Int) < c.gaps.length) = false := decide_eq_false (by omega)
  by_cases hd : 65535 < c.dups.length
  · have HE := Lib.hid (show bE c = 43 by simp [bE, HK.out, hd])
    have hdd : decide ((65535 : Int) < c.dups.length) = true := decide_eq_true (by omega)
    clear hg hd
    have cc := (bC.cell 0).trans c0
    go_enter Try.func22, Try.ntmps22
    have cc := (bC.cell 14).trans e14
    have cd := (bC.cell 15).trans e15
    go_wp2_with fail
    refine (long_calls _ _).mono ?_
    rintro e wl ⟨rfl, rfl⟩
    go_wp2_with fail
    refine (long_calls _ _).mono ?_
    rintro e wl ⟨rfl, rfl⟩
    go_wp2
    go_ret
    exact ⟨by rw [HE.out]; rfl, B0, fun h => by rw [HE.out] at h; cases h⟩
  have hdd : decide ((65535 : Int) < c.dups.length) = false := decide_eq_false (by omega)
  have HE := Lib.hid (show bE c = 0 by simp [bE, HK.out, hg, hd])
  have HB := Lib.hid (show bB c = b32 c.tsn ++ b32 c.win ++ b16 c.gaps.length ++ b16 c.dups.length ++ gB c.gaps ++ dB c.dups by simp [bB, HK.out])
  have HG := Lib.hid (wr16n hg)
  have HD := Lib.hid (wr16n hd)
  have hbg := hBd.gaps
  have hbd := hBd.dups
  clear hg hd
  have cc := (bC.cell 0).trans c0
  go_enter Try.func22, Try.ntmps22
  have cc := (bC.cell 14).trans e14
  have cd := (bC.cell 15).trans e15
  go_wp2_with fail
  refine (long_calls _ _).mono ?_
  rintro e wl ⟨rfl, rfl⟩
  go_wp2_with fail
  refine (long_calls _ _).mono ?_
  rintro e wl ⟨rfl, rfl⟩
  clear G14 D15 cd
  have cc := (bC.cell 5).trans hC.c5
  go_wp2_with fail
  refine (u32f_calls _ _ _ _ _ _ WF (by simp)).mono ?_
  rintro e w1 ⟨rfl, W, f⟩
  replace bC := Blk.fr bC f (fun h => h.2 rfl)
  replace hC1 := hC1.fr f hsub
  replace B0 := Bl.trans B0 (Bl.of_fr f (Nat.le_trans hbw B0.size) (fun k h => h.1))
  clear WF f cc
  have WF := W
  clear W
  clear hgd hdd
  have cc := (bC.cell 11).trans hC.c11
  go_wp2_with fail
  refine (u32f_calls _ _ _ _ _ _ WF (by simp)).mono ?_
  rintro e w2 ⟨rfl, W, f⟩
  replace bC := Blk.fr bC f (fun h => h.2 rfl)
  replace hC1 := hC1.fr f hsub
  replace B0 := Bl.trans B0 (Bl.of_fr f (Nat.le_trans hbw B0.size) (fun k h => h.1))
  clear WF f cc
  have WF := W
  clear W
  have cc := (bC.cell 14).trans e14
  go_wp2_with fail
  refine (u16f_calls _ _ _ _ _ _ WF (by simp)).mono ?_
  rintro e w3 ⟨rfl, W, f⟩
  replace bC := Blk.fr bC f (fun h => h.2 rfl)
  replace hC1 := hC1.fr f hsub
  replace B0 := Bl.trans B0 (Bl.of_fr f (Nat.le_trans hbw B0.size) (fun k h => h.1))
  clear WF f cc
  have WF := W
  clear W
  have cc := (bC.cell 15).trans e15
  go_wp2_with fail
  refine (u16f_calls _ _ _ _ _ _ WF (by simp)).mono ?_
  rintro e w4 ⟨rfl, W, f⟩
  replace bC := Blk.fr bC f (fun h => h.2 rfl)
  replace hC1 := hC1.fr f hsub
  replace B0 := Bl.trans B0 (Bl.of_fr f (Nat.le_trans hbw B0.size) (fun k h => h.1))
  clear WF f cc
  have WF := W
  clear W
  have cc := (bC.cell 14).trans e14
  have WP : WtrF (only w.heap.size) w4 base g (b32 c.tsn ++ b32 c.win ++ b16 c.gaps.length ++ b16 c.dups.length) := by simpa [b32, b16, HG.out, HD.out] using WF
  have hPl : (b32 c.tsn ++ b32 c.win ++ b16 c.gaps.length ++ b16 c.dups.length).length = 12 := rfl
  generalize b32 c.tsn ++ b32 c.win ++ b16 c.gaps.length ++ b16 c.dups.length = P at WP HB hPl
  obtain ⟨A14', p14', e14', G14⟩ := hC1.c14
  obtain ⟨rfl, rfl⟩ : A14 = A14' ∧ p14 = p14' := by rw [e14] at e14'; injection e14' with h; injection h with h1 h2 h3; exact ⟨h1, h3⟩
  clear WF e14'
  go_wp2_with fail
  go_loopw [113] (fun i wr => ∃ j : Nat, j ≤ c.gaps.length ∧ i = .int .i64 j ∧ WtrF (only w.heap.size) wr base g (P ++ gB (c.gaps.take j)) ∧ GapC wr lo hi A14 c.gaps ∧ CkV wr lo hi cs c ∧ Blk wr w.heap.size 31 cs ∧ Below base w wr) (fun i _ => c.gaps.length - (intOf i).toNat)
  case atStart => exact ⟨0, Nat.zero_le _, rfl, by simpa [gB] using WP, G14, hC1, bC, B0⟩
  case round =>
    clear WP G14 hC1 bC B0 cc
    obtain ⟨j, hj, rfl, WF, G14, hC1, bC, B0⟩ := hrel
    by_cases hlt : j < c.gaps.length
    · obtain ⟨ad, rfl, h1, h2, h3, h4⟩ := G14 j hlt
      have HT := Lib.hid (gB_take c.gaps j hlt)
      have hLL := gB_len (c.gaps.take j)
      rw [List.length_take] at hLL
      generalize c.gaps[j] = s at h3 h4 HT
      obtain ⟨x, y⟩ := s
      rw [add_add_ _ _ _ (by decide)] at h4
      replace h3 : wr.cell? (ad.add (j * 2)) = some (.int .u16 x) := h3
      replace h4 : wr.cell? ⟨(ad.add (j * 2)).block, (ad.add (j * 2)).off + 1, none⟩ = some (.int .u16 y) := h4
      have hjl : (j : Int) < c.gaps.length := by omega
      have bS := Blk.new wr #[.int .u16 x, .int .u16 y] 73
      have hgs : w.heap.size ≤ wr.heap.size := B0.size
      have WF2 := WtrF.hold2 (F' := fun k => k = w.heap.size ∨ k = wr.heap.size) WF ((Below.refl wr.heap.size wr).alloc (Nat.le_refl _) (.cells #[.int .u16 x, .int .u16 y] 73)) (fun k h => by rcases h with h | h; exact .inl h; exact .inr ⟨by omega, by simp; omega⟩)
      replace bC := bC.alloc (.cells #[.int .u16 x, .int .u16 y] 73)
      replace G14 := G14.fr (S := nothing) ((Fr.refl _ wr).alloc (.cells #[.int .u16 x, .int .u16 y] 73)) (fun _ _ _ h => h)
      replace hC1 := hC1.fr (S := nothing) ((Fr.refl _ wr).alloc (.cells #[.int .u16 x, .int .u16 y] 73)) (fun _ _ _ h => h)
      replace B0 := B0.alloc (Nat.le_trans hbw B0.size) (.cells #[.int .u16 x, .int .u16 y] 73)
      have hsub2 : ∀ b, lo ≤ b → b < hi → ¬ OwnF (fun k => k = w.heap.size ∨ k = wr.heap.size) base b := fun b _ h2 h3 => by have := h3.1; omega
      clear WF
      have WF := WF2
      clear WF2
      go_wp2_with fail
      refine (u16f_calls _ _ _ _ _ _ WF (by simp; omega)).mono ?_
      rintro e w5 ⟨rfl, W, f⟩
      replace bS := Blk.fr bS f (fun h => h.2 (.inr rfl))
      replace bC := Blk.fr bC f (fun h => h.2 (.inl rfl))
      replace G14 := G14.fr f hsub2
      replace hC1 := hC1.fr f hsub2
      replace B0 := Bl.trans B0 (Bl.of_fr f (Nat.le_trans hbw B0.size) (fun k h => h.1))
      have cS0 := bS.cell 0
      have cS1 := bS.cell 1
      simp at cS0 cS1
      clear WF f
      have WF := W
      clear W
      clear h3 h4
      go_wp2_with fail
      refine (u16f_calls _ _ _ _ _ _ WF (by simp; omega)).mono ?_
      rintro e w6 ⟨rfl, W, f⟩
      replace bS := Blk.fr bS f (fun h => h.2 (.inr rfl))
      replace bC := Blk.fr bC f (fun h => h.2 (.inl rfl))
      replace G14 := G14.fr f hsub2
      replace hC1 := hC1.fr f hsub2
      replace B0 := Bl.trans B0 (Bl.of_fr f (Nat.le_trans hbw B0.size) (fun k h => h.1))
      have cS0 := bS.cell 0
      have cS1 := bS.cell 1
      simp at cS0 cS1
      clear WF f
      have WF := W
      clear W
      have WN := WtrF.less (F := only w.heap.size) WF (fun k h => .inl h)
      have HW := Lib.hid (show WtrF (only w.heap.size) _ base g (P ++ gB (c.gaps.take (j + 1))) by rw [HT.out]; simpa [b16, List.append_assoc] using WN)
      have HS := Lib.hid G14
      have HC1 := Lib.hid hC1
      have HBC := Lib.hid bC
      have HB0 := Lib.hid B0
      clear WN WF G14 hC1 bC B0 bS cS0 cS1 HT hsub2
      go_wp2
      go_roundw
      case rel => exact ⟨j + 1, by omega, by go_num, HW.out, HS.out, HC1.out, HBC.out, HB0.out⟩
      case measure => simp [intOf]; omega
    · obtain rfl : j = c.gaps.length := by omega
      rw [List.take_length] at WF
      have hjl : ¬ ((c.gaps.length : Nat) : Int) < c.gaps.length := by omega
      have hLL := gB_len c.gaps
      have cc := (bC.cell 15).trans e15
      obtain ⟨A15', p15', e15', D15⟩ := hC1.c15
      obtain ⟨rfl, rfl⟩ : A15 = A15' ∧ p15 = p15' := by rw [e15] at e15'; injection e15' with h; injection h with h1 h2 h3; exact ⟨h1, h3⟩
      have hQl : (P ++ gB c.gaps).length = 12 + c.gaps.length * 4 := by rw [List.length_append, hPl, hLL]
      generalize P ++ gB c.gaps = Q at WF HB hQl
      clear G14 hC1 e15' hLL
      go_wp2_with fail
      go_loopw [129] (fun i wq => ∃ j : Nat, j ≤ c.dups.length ∧ i = .int .i64 j ∧ WtrF (only w.heap.size) wq base g (Q ++ dB (c.dups.take j)) ∧ DupC wq lo hi A15 c.dups ∧ Below base w wq) (fun i _ => c.dups.length - (intOf i).toNat)
      case atStart => exact ⟨0, Nat.zero_le _, rfl, by simpa [dB] using WF, D15, B0⟩
      case round =>
        clear WF D15 bC B0 cc hjl hlt hj
        obtain ⟨i, hi', rfl, WF, D15, B0⟩ := hrel
        by_cases hlt : i < c.dups.length
        · obtain ⟨ad, rfl, h1, h2, h3⟩ := D15 i hlt
          have HT := Lib.hid (dB_take c.dups i hlt)
          have hLL := dB_len (c.dups.take i)
          rw [List.length_take] at hLL
          generalize c.dups[i] = x at h3 HT
          have hjl : (i : Int) < c.dups.length := by omega
          go_wp2_with fail
          refine (u32f_calls _ _ _ _ _ _ WF (by simp; omega)).mono ?_
          rintro e w9 ⟨rfl, W, f⟩
          have HS := Lib.hid (D15.fr f hsub)
          have HB0 := Lib.hid (Bl.trans B0 (Bl.of_fr f (Nat.le_trans hbw B0.size) (fun k h => h.1)))
          have HW := Lib.hid (show WtrF (only w.heap.size) w9 base g (Q ++ dB (c.dups.take (i + 1))) by rw [HT.out]; simpa [b32, List.append_assoc] using W)
          clear W WF f D15 B0 HT h3
          go_wp2
          go_roundw
          case rel => exact ⟨i + 1, by omega, by go_num, HW.out, HS.out, HB0.out⟩
          case measure => simp [intOf]; omega
        · obtain rfl : i = c.dups.length := by omega
          rw [List.take_length] at WF
          have hjl : ¬ ((c.dups.length : Nat) : Int) < c.dups.length := by omega
          go_wp2
          go_ret
          exact ⟨by rw [HE.out]; rfl, B0, fun _ => by rw [HB.out]; exact WF.free⟩
end Go.Proofs.Ytaifihoheieneaa.Chk
