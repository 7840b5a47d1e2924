-- PRINTED BY print.sh 35421559b90ae4d0a3588c463048766b98c2df88dd9212a6774a882060cdf62d: not written by this session
import Derived.Test.YtnnkabgbkbolgaaPSerialNumbersx0
namespace Go.Proofs.Ytnnkabgbkbolgaa.PSerialNumbers
open Go.RowKit Go.Proofs.YtnnkabgbkbolgaaW.PrintWords Go.Proofs.YtnnkabgbkbolgaaW.PrintLast Go.Proofs.YtnnkabgbkbolgaaW.PrintMore
attribute [local go_sem] max2_int min2_int max_two min_two max_three min_three max_four min_four   -- for this text's walks alone
set_option linter.unusedVariables false
set_option linter.unusedSimpArgs false

/-! ### serial_Less: function 10 -/
def serial_Less.f (a0 : Int) (a1 : Int) : Option (Bool) := some (decide ((wrap32 ((a1 - a0) % 4294967296)) > 0))
set_option maxHeartbeats 8000000 in
set_option maxRecDepth 100000 in
theorem serial_Less.calls (a0 : Int) (a1 : Int) (r : Bool) (w : World) (h : serial_Less.f a0 a1 = some r) :
    Calls Try.prog 10 #[.int .u32 a0, .int .u32 a1] w fun e w' => e = .returned (.bool r) ∧ Drawn0 w w' := by
  have H : (some (decide ((wrap32 ((a1 - a0) % 4294967296)) > 0))) = some r := h
  clear h
  obtain rfl := Option.some.inj H
  go_enter Try.func10, Try.ntmps10
  go_wp2
  go_ret
  exact ⟨by first | rfl | (simp; done) | (simp [*]; done), by repeat (first | exact Drawn0.refl _ | apply Drawn0.step)⟩

/-! ### serial_LessShort: function 11 -/
def serial_LessShort.f (a0 : Int) (a1 : Int) : Option (Bool) := some (decide ((IntKind.i16.wrap (IntKind.u16.wrap (a1 - a0))) > 0))
set_option maxHeartbeats 8000000 in
set_option maxRecDepth 100000 in
theorem serial_LessShort.calls (a0 : Int) (a1 : Int) (r : Bool) (w : World) (h : serial_LessShort.f a0 a1 = some r) :
    Calls Try.prog 11 #[.int .u16 a0, .int .u16 a1] w fun e w' => e = .returned (.bool r) ∧ Drawn0 w w' := by
  have H : (some (decide ((IntKind.i16.wrap (IntKind.u16.wrap (a1 - a0))) > 0))) = some r := h
  clear h
  obtain rfl := Option.some.inj H
  go_enter Try.func11, Try.ntmps11
  go_wp2
  go_ret
  exact ⟨by first | rfl | (simp; done) | (simp [*]; done), by repeat (first | exact Drawn0.refl _ | apply Drawn0.step)⟩

/-! ### serial_Dist: function 14 -/
def serial_Dist.f (a0 : Int) (a1 : Int) : Option (Int) := some ((a1 - a0) % 4294967296)
set_option maxHeartbeats 8000000 in
set_option maxRecDepth 100000 in
theorem serial_Dist.calls (a0 : Int) (a1 : Int) (r : Int) (w : World) (h : serial_Dist.f a0 a1 = some r) :
    Calls Try.prog 14 #[.int .u32 a0, .int .u32 a1] w fun e w' => e = .returned (.int .u32 r) ∧ Drawn0 w w' := by
  have H : (some ((a1 - a0) % 4294967296)) = some r := h
  clear h
  obtain rfl := Option.some.inj H
  go_enter Try.func14, Try.ntmps14
  go_wp2
  go_ret
  exact ⟨by first | rfl | (simp; done) | (simp [*]; done), by repeat (first | exact Drawn0.refl _ | apply Drawn0.step)⟩

/-! ### flumelaw01_first: function 9 -/
def flumelaw01_first.f  : Option (Bool) := (serial_Dist.f 4294967295 1).bind fun t101 => (if t101 = 2 then ((serial_Less.f 4294967295 0).bind fun t102 => (if t102 = true then ((serial_Less.f 0 2147483648).bind fun t103 => (if t103 = true then (some false) else ((serial_LessShort.f 65535 3).bind fun t104 => (some t104)))) else (some false))) else (some false))
set_option maxHeartbeats 8000000 in
set_option maxRecDepth 100000 in
theorem flumelaw01_first.calls  (r : Bool) (w : World) (h : flumelaw01_first.f  = some r) :
    Calls Try.prog 9 #[] w fun e w' => e = .returned (.bool r) ∧ Drawn0 w w' := by
  have H : ((serial_Dist.f 4294967295 1).bind fun t101 => (if t101 = 2 then ((serial_Less.f 4294967295 0).bind fun t102 => (if t102 = true then ((serial_Less.f 0 2147483648).bind fun t103 => (if t103 = true then (some false) else ((serial_LessShort.f 65535 3).bind fun t104 => (some t104)))) else (some false))) else (some false))) = some r := h
  clear h
  replace H := Option.bind_eq_some_iff.mp H
  obtain ⟨t101, A10, H⟩ := H
  replace H : (if t101 = 2 then ((serial_Less.f 4294967295 0).bind fun t102 => (if t102 = true then ((serial_Less.f 0 2147483648).bind fun t103 => (if t103 = true then (some false) else ((serial_LessShort.f 65535 3).bind fun t104 => (some t104)))) else (some false))) else (some false)) = some r := H
  have A1 := Aside0.mk A10
  clear A10
  by_cases c2 : t101 = 2
  · rw [if_pos c2] at H
    have c2b0 : (t101 == 2) = true := beq_iff_eq.mpr c2
    have c2b1 : (t101 != 2) = false := bne_eq_false_iff_eq.mpr c2
    clear c2
    replace H := Option.bind_eq_some_iff.mp H
    obtain ⟨t102, A30, H⟩ := H
    replace H : (if t102 = true then ((serial_Less.f 0 2147483648).bind fun t103 => (if t103 = true then (some false) else ((serial_LessShort.f 65535 3).bind fun t104 => (some t104)))) else (some false)) = some r := H
    have A3 := Aside0.mk A30
    clear A30
    by_cases c4 : t102 = true
    · subst c4
      have H1 : ((serial_Less.f 0 2147483648).bind fun t103 => (if t103 = true then (some false) else ((serial_LessShort.f 65535 3).bind fun t104 => (some t104)))) = some r := by rw [if_pos rfl] at H; exact H
      clear H
      have H := H1
      clear H1
      replace H := Option.bind_eq_some_iff.mp H
      obtain ⟨t103, A50, H⟩ := H
      replace H : (if t103 = true then (some false) else ((serial_LessShort.f 65535 3).bind fun t104 => (some t104))) = some r := H
      have A5 := Aside0.mk A50
      clear A50
      by_cases c6 : t103 = true
      · subst c6
        have H1 : (some false) = some r := by rw [if_pos rfl] at H; exact H
        clear H
        have H := H1
        clear H1
        obtain rfl := Option.some.inj H
        go_enter Try.func9, Try.ntmps9
        go_wp2_with (first | ((with_reducible refine gate_callee (f := 14) rfl ?_); refine goesL_ (some 1) rfl rfl Try.func14 (by kernel_rfl) rfl #[.int .u32 4294967295, .int .u32 1] rfl (by (try simp only [List.map_toArray, List.map_cons, List.map_nil]); first | done | rfl | (simp only [List.length_drop, List.length_take]; rfl)) ?_; (with_reducible refine (serial_Dist.calls 4294967295 1 t101 _ A1.out).mono ?_); rintro e w' ⟨rfl, ⟨nd, rfl⟩⟩; refine ⟨_, rfl, ?_⟩) | (go_at_call 10; (with_reducible refine (serial_Less.calls 4294967295 0 true _ A3.out).mono ?_); rintro e w' ⟨rfl, ⟨nd, rfl⟩⟩) | (go_at_call 10; (with_reducible refine (serial_Less.calls 0 2147483648 true _ A5.out).mono ?_); rintro e w' ⟨rfl, ⟨nd, rfl⟩⟩))
        go_ret
        exact ⟨by first | rfl | (simp; done) | (simp [*]; done), by repeat (first | exact Drawn0.refl _ | apply Drawn0.step)⟩
      · replace c6 := Bool.eq_false_iff.mpr c6
        subst c6
        have H1 : ((serial_LessShort.f 65535 3).bind fun t104 => (some t104)) = some r := by rw [if_neg (show ¬ (false = true) by decide)] at H; exact H
        clear H
        have H := H1
        clear H1
        replace H := Option.bind_eq_some_iff.mp H
        obtain ⟨t104, A70, H⟩ := H
        replace H : (some t104) = some r := H
        have A7 := Aside0.mk A70
        clear A70
        obtain rfl := Option.some.inj H
        go_enter Try.func9, Try.ntmps9
        go_wp2_with (first | ((with_reducible refine gate_callee (f := 14) rfl ?_); refine goesL_ (some 1) rfl rfl Try.func14 (by kernel_rfl) rfl #[.int .u32 4294967295, .int .u32 1] rfl (by (try simp only [List.map_toArray, List.map_cons, List.map_nil]); first | done | rfl | (simp only [List.length_drop, List.length_take]; rfl)) ?_; (with_reducible refine (serial_Dist.calls 4294967295 1 t101 _ A1.out).mono ?_); rintro e w' ⟨rfl, ⟨nd, rfl⟩⟩; refine ⟨_, rfl, ?_⟩) | (go_at_call 10; (with_reducible refine (serial_Less.calls 4294967295 0 true _ A3.out).mono ?_); rintro e w' ⟨rfl, ⟨nd, rfl⟩⟩) | (go_at_call 10; (with_reducible refine (serial_Less.calls 0 2147483648 false _ A5.out).mono ?_); rintro e w' ⟨rfl, ⟨nd, rfl⟩⟩) | (go_at_call 11; (with_reducible refine (serial_LessShort.calls 65535 3 t104 _ A7.out).mono ?_); rintro e w' ⟨rfl, ⟨nd, rfl⟩⟩))
        go_ret
        exact ⟨by first | rfl | (simp; done) | (simp [*]; done), by repeat (first | exact Drawn0.refl _ | apply Drawn0.step)⟩
    · replace c4 := Bool.eq_false_iff.mpr c4
      subst c4
      have H1 : (some false) = some r := by rw [if_neg (show ¬ (false = true) by decide)] at H; exact H
      clear H
      have H := H1
      clear H1
      obtain rfl := Option.some.inj H
      go_enter Try.func9, Try.ntmps9
      go_wp2_with (first | ((with_reducible refine gate_callee (f := 14) rfl ?_); refine goesL_ (some 1) rfl rfl Try.func14 (by kernel_rfl) rfl #[.int .u32 4294967295, .int .u32 1] rfl (by (try simp only [List.map_toArray, List.map_cons, List.map_nil]); first | done | rfl | (simp only [List.length_drop, List.length_take]; rfl)) ?_; (with_reducible refine (serial_Dist.calls 4294967295 1 t101 _ A1.out).mono ?_); rintro e w' ⟨rfl, ⟨nd, rfl⟩⟩; refine ⟨_, rfl, ?_⟩) | (go_at_call 10; (with_reducible refine (serial_Less.calls 4294967295 0 false _ A3.out).mono ?_); rintro e w' ⟨rfl, ⟨nd, rfl⟩⟩))
      go_ret
      exact ⟨by first | rfl | (simp; done) | (simp [*]; done), by repeat (first | exact Drawn0.refl _ | apply Drawn0.step)⟩
  · rw [if_neg c2] at H
    have c2b0 : (t101 == 2) = false := beq_eq_false_iff_ne.mpr c2
    have c2b1 : (t101 != 2) = true := bne_iff_ne.mpr c2
    obtain rfl := Option.some.inj H
    go_enter Try.func9, Try.ntmps9
    go_wp2_with (first | ((with_reducible refine gate_callee (f := 14) rfl ?_); refine goesL_ (some 1) rfl rfl Try.func14 (by kernel_rfl) rfl #[.int .u32 4294967295, .int .u32 1] rfl (by (try simp only [List.map_toArray, List.map_cons, List.map_nil]); first | done | rfl | (simp only [List.length_drop, List.length_take]; rfl)) ?_; (with_reducible refine (serial_Dist.calls 4294967295 1 t101 _ A1.out).mono ?_); rintro e w' ⟨rfl, ⟨nd, rfl⟩⟩; refine ⟨_, rfl, ?_⟩))
    go_ret
    exact ⟨by first | rfl | (simp; done) | (simp [*]; done), by repeat (first | exact Drawn0.refl _ | apply Drawn0.step)⟩

/-! ### flumeref01_Dist: function 13 -/
def flumeref01_Dist.f (a0 : Int) (a1 : Int) : Option (Int) := if (IntKind.u64.wrap (a1)) < (IntKind.u64.wrap (a0)) then (some (IntKind.u64.wrap ((IntKind.u64.wrap ((IntKind.u64.wrap (a1)) + 4294967296)) - (IntKind.u64.wrap (a0))))) else (some (IntKind.u64.wrap ((IntKind.u64.wrap (a1)) - (IntKind.u64.wrap (a0)))))
set_option maxHeartbeats 8000000 in
set_option maxRecDepth 100000 in
theorem flumeref01_Dist.calls (a0 : Int) (a1 : Int) (r : Int) (w : World) (h : flumeref01_Dist.f a0 a1 = some r) :
    Calls Try.prog 13 #[.int .u32 a0, .int .u32 a1] w fun e w' => e = .returned (.int .u64 r) ∧ Drawn0 w w' := by
  have H : (if (IntKind.u64.wrap (a1)) < (IntKind.u64.wrap (a0)) then (some (IntKind.u64.wrap ((IntKind.u64.wrap ((IntKind.u64.wrap (a1)) + 4294967296)) - (IntKind.u64.wrap (a0))))) else (some (IntKind.u64.wrap ((IntKind.u64.wrap (a1)) - (IntKind.u64.wrap (a0)))))) = some r := h
  clear h
  by_cases c3 : (IntKind.u64.wrap (a1)) < (IntKind.u64.wrap (a0))
  · rw [if_pos c3] at H
    have c3b0 : decide ((IntKind.u64.wrap (a1)) < (IntKind.u64.wrap (a0))) = true := decide_eq_true c3
    clear c3
    obtain rfl := Option.some.inj H
    go_enter Try.func13, Try.ntmps13
    go_wp2
    go_ret
    exact ⟨by first | rfl | (simp; done) | (simp [*]; done), by repeat (first | exact Drawn0.refl _ | apply Drawn0.step)⟩
  · rw [if_neg c3] at H
    have c3b0 : decide ((IntKind.u64.wrap (a1)) < (IntKind.u64.wrap (a0))) = false := decide_eq_false c3
    clear c3
    obtain rfl := Option.some.inj H
    go_enter Try.func13, Try.ntmps13
    go_wp2
    go_ret
    exact ⟨by first | rfl | (simp; done) | (simp [*]; done), by repeat (first | exact Drawn0.refl _ | apply Drawn0.step)⟩

/-! ### flumeref01_Less: function 15 -/
def flumeref01_Less.f (a0 : Int) (a1 : Int) : Option (Bool) := (flumeref01_Dist.f a0 a1).bind fun t105 => (if t105 > 0 then (some (decide (t105 < 2147483648))) else (some false))
set_option maxHeartbeats 8000000 in
set_option maxRecDepth 100000 in
theorem flumeref01_Less.calls (a0 : Int) (a1 : Int) (r : Bool) (w : World) (h : flumeref01_Less.f a0 a1 = some r) :
    Calls Try.prog 15 #[.int .u32 a0, .int .u32 a1] w fun e w' => e = .returned (.bool r) ∧ Drawn0 w w' := by
  have H : ((flumeref01_Dist.f a0 a1).bind fun t105 => (if t105 > 0 then (some (decide (t105 < 2147483648))) else (some false))) = some r := h
  clear h
  replace H := Option.bind_eq_some_iff.mp H
  obtain ⟨t105, A30, H⟩ := H
  replace H : (if t105 > 0 then (some (decide (t105 < 2147483648))) else (some false)) = some r := H
  have A3 := Aside0.mk A30
  clear A30
  by_cases c4 : t105 > 0
  · rw [if_pos c4] at H
    have c4b0 : decide (0 < t105) = true := decide_eq_true c4
    clear c4
    obtain rfl := Option.some.inj H
    go_enter Try.func15, Try.ntmps15
    go_wp2_with (first | ((with_reducible refine gate_callee (f := 13) rfl ?_); refine goesL_ (some 8) rfl rfl Try.func13 (by kernel_rfl) rfl #[.int .u32 a0, .int .u32 a1] rfl (by (try simp only [List.map_toArray, List.map_cons, List.map_nil]); first | done | rfl | (simp only [List.length_drop, List.length_take]; rfl)) ?_; (with_reducible refine (flumeref01_Dist.calls a0 a1 t105 _ A3.out).mono ?_); rintro e w' ⟨rfl, ⟨nd, rfl⟩⟩; refine ⟨_, rfl, ?_⟩))
    go_ret
    exact ⟨by first | rfl | (simp; done) | (simp [*]; done), by repeat (first | exact Drawn0.refl _ | apply Drawn0.step)⟩
  · rw [if_neg c4] at H
    have c4b0 : decide (0 < t105) = false := decide_eq_false c4
    clear c4
    obtain rfl := Option.some.inj H
    go_enter Try.func15, Try.ntmps15
    go_wp2_with (first | ((with_reducible refine gate_callee (f := 13) rfl ?_); refine goesL_ (some 8) rfl rfl Try.func13 (by kernel_rfl) rfl #[.int .u32 a0, .int .u32 a1] rfl (by (try simp only [List.map_toArray, List.map_cons, List.map_nil]); first | done | rfl | (simp only [List.length_drop, List.length_take]; rfl)) ?_; (with_reducible refine (flumeref01_Dist.calls a0 a1 t105 _ A3.out).mono ?_); rintro e w' ⟨rfl, ⟨nd, rfl⟩⟩; refine ⟨_, rfl, ?_⟩))
    go_ret
    exact ⟨by first | rfl | (simp; done) | (simp [*]; done), by repeat (first | exact Drawn0.refl _ | apply Drawn0.step)⟩

/-! ### flumeref01_LessShort: function 16 -/
def flumeref01_LessShort.f (a0 : Int) (a1 : Int) : Option (Bool) := if (wrap64 (a1)) < (wrap64 (a0)) then (if (wrap64 ((wrap64 ((wrap64 (a1)) + 65536)) - (wrap64 (a0)))) > 0 then (some (decide ((wrap64 ((wrap64 ((wrap64 (a1)) + 65536)) - (wrap64 (a0)))) < 32768))) else (some false)) else (if (wrap64 ((wrap64 (a1)) - (wrap64 (a0)))) > 0 then (some (decide ((wrap64 ((wrap64 (a1)) - (wrap64 (a0)))) < 32768))) else (some false))
set_option maxHeartbeats 8000000 in
set_option maxRecDepth 100000 in
theorem flumeref01_LessShort.calls (a0 : Int) (a1 : Int) (r : Bool) (w : World) (h : flumeref01_LessShort.f a0 a1 = some r) :
    Calls Try.prog 16 #[.int .u16 a0, .int .u16 a1] w fun e w' => e = .returned (.bool r) ∧ Drawn0 w w' := by
  have H : (if (wrap64 (a1)) < (wrap64 (a0)) then (if (wrap64 ((wrap64 ((wrap64 (a1)) + 65536)) - (wrap64 (a0)))) > 0 then (some (decide ((wrap64 ((wrap64 ((wrap64 (a1)) + 65536)) - (wrap64 (a0)))) < 32768))) else (some false)) else (if (wrap64 ((wrap64 (a1)) - (wrap64 (a0)))) > 0 then (some (decide ((wrap64 ((wrap64 (a1)) - (wrap64 (a0)))) < 32768))) else (some false))) = some r := h
  clear h
  by_cases c3 : (wrap64 (a1)) < (wrap64 (a0))
  · rw [if_pos c3] at H
    have c3b0 : decide ((wrap64 (a1)) < (wrap64 (a0))) = true := decide_eq_true c3
    clear c3
    by_cases c4 : (wrap64 ((wrap64 ((wrap64 (a1)) + 65536)) - (wrap64 (a0)))) > 0
    · rw [if_pos c4] at H
      have c4b0 : decide (0 < (wrap64 ((wrap64 ((wrap64 (a1)) + 65536)) - (wrap64 (a0))))) = true := decide_eq_true c4
      clear c4
      obtain rfl := Option.some.inj H
      go_enter Try.func16, Try.ntmps16
      go_wp2
      go_ret
      exact ⟨by first | rfl | (simp; done) | (simp [*]; done), by repeat (first | exact Drawn0.refl _ | apply Drawn0.step)⟩
    · rw [if_neg c4] at H
      have c4b0 : decide (0 < (wrap64 ((wrap64 ((wrap64 (a1)) + 65536)) - (wrap64 (a0))))) = false := decide_eq_false c4
      clear c4
      obtain rfl := Option.some.inj H
      go_enter Try.func16, Try.ntmps16
      go_wp2
      go_ret
      exact ⟨by first | rfl | (simp; done) | (simp [*]; done), by repeat (first | exact Drawn0.refl _ | apply Drawn0.step)⟩
  · rw [if_neg c3] at H
    have c3b0 : decide ((wrap64 (a1)) < (wrap64 (a0))) = false := decide_eq_false c3
    clear c3
    by_cases c5 : (wrap64 ((wrap64 (a1)) - (wrap64 (a0)))) > 0
    · rw [if_pos c5] at H
      have c5b0 : decide (0 < (wrap64 ((wrap64 (a1)) - (wrap64 (a0))))) = true := decide_eq_true c5
      clear c5
      obtain rfl := Option.some.inj H
      go_enter Try.func16, Try.ntmps16
      go_wp2
      go_ret
      exact ⟨by first | rfl | (simp; done) | (simp [*]; done), by repeat (first | exact Drawn0.refl _ | apply Drawn0.step)⟩
    · rw [if_neg c5] at H
      have c5b0 : decide (0 < (wrap64 ((wrap64 (a1)) - (wrap64 (a0))))) = false := decide_eq_false c5
      clear c5
      obtain rfl := Option.some.inj H
      go_enter Try.func16, Try.ntmps16
      go_wp2
      go_ret
      exact ⟨by first | rfl | (simp; done) | (simp [*]; done), by repeat (first | exact Drawn0.refl _ | apply Drawn0.step)⟩

/-! ### serial_Later: function 17 -/
def serial_Later.f (a0 : Int) (a1 : Int) : Option (Int) := (serial_Less.f a0 a1).bind fun t106 => (if t106 = true then (some a1) else (some a0))
set_option maxHeartbeats 8000000 in
set_option maxRecDepth 100000 in
theorem serial_Later.calls (a0 : Int) (a1 : Int) (r : Int) (w : World) (h : serial_Later.f a0 a1 = some r) :
    Calls Try.prog 17 #[.int .u32 a0, .int .u32 a1] w fun e w' => e = .returned (.int .u32 r) ∧ Drawn0 w w' := by
  have H : ((serial_Less.f a0 a1).bind fun t106 => (if t106 = true then (some a1) else (some a0))) = some r := h
  clear h
  replace H := Option.bind_eq_some_iff.mp H
  obtain ⟨t106, A30, H⟩ := H
  replace H : (if t106 = true then (some a1) else (some a0)) = some r := H
  have A3 := Aside0.mk A30
  clear A30
  by_cases c4 : t106 = true
  · subst c4
    have H1 : (some a1) = some r := by rw [if_pos rfl] at H; exact H
    clear H
    have H := H1
    clear H1
    obtain rfl := Option.some.inj H
    go_enter Try.func17, Try.ntmps17
    go_wp2_with (first | ((with_reducible refine gate_callee (f := 10) rfl ?_); refine goesL_ (some 7) rfl rfl Try.func10 (by kernel_rfl) rfl #[.int .u32 a0, .int .u32 a1] rfl (by (try simp only [List.map_toArray, List.map_cons, List.map_nil]); first | done | rfl | (simp only [List.length_drop, List.length_take]; rfl)) ?_; (with_reducible refine (serial_Less.calls a0 a1 true _ A3.out).mono ?_); rintro e w' ⟨rfl, ⟨nd, rfl⟩⟩; refine ⟨_, rfl, ?_⟩))
    go_ret
    exact ⟨by first | rfl | (simp; done) | (simp [*]; done), by repeat (first | exact Drawn0.refl _ | apply Drawn0.step)⟩
  · replace c4 := Bool.eq_false_iff.mpr c4
    subst c4
    have H1 : (some a0) = some r := by rw [if_neg (show ¬ (false = true) by decide)] at H; exact H
    clear H
    have H := H1
    clear H1
    obtain rfl := Option.some.inj H
    go_enter Try.func17, Try.ntmps17
    go_wp2_with (first | ((with_reducible refine gate_callee (f := 10) rfl ?_); refine goesL_ (some 7) rfl rfl Try.func10 (by kernel_rfl) rfl #[.int .u32 a0, .int .u32 a1] rfl (by (try simp only [List.map_toArray, List.map_cons, List.map_nil]); first | done | rfl | (simp only [List.length_drop, List.length_take]; rfl)) ?_; (with_reducible refine (serial_Less.calls a0 a1 false _ A3.out).mono ?_); rintro e w' ⟨rfl, ⟨nd, rfl⟩⟩; refine ⟨_, rfl, ?_⟩))
    go_ret
    exact ⟨by first | rfl | (simp; done) | (simp [*]; done), by repeat (first | exact Drawn0.refl _ | apply Drawn0.step)⟩

/-! ### flumelaw01_SerialNumbers: function 7 -/
def flumelaw01_SerialNumbers.j0 : Nat → Int → Int → Bool → Option (Bool)
  | 0, _, _, _ => none
  | k + 1, x0, x1, x38 => if x38 = true then (some false) else ((flumeref01_Less.f x0 x1).bind fun t114 => (if t114 = true then ((serial_Later.f x0 x1).bind fun t115 => (some (t115 == x1))) else ((serial_Later.f x0 x1).bind fun t116 => (some (t116 == x0)))))
def flumelaw01_SerialNumbers.f (k : Nat) (a0 : Int) (a1 : Int) : Option (Bool) := (flumelaw01_first.f).bind fun t107 => (if t107 = true then ((serial_Dist.f a0 a1).bind fun t108 => ((flumeref01_Dist.f a0 a1).bind fun t109 => (if (IntKind.u64.wrap (t108)) = t109 then ((serial_Less.f a0 a1).bind fun t110 => ((flumeref01_Less.f a0 a1).bind fun t111 => (if (t110 != t111) = true then (flumelaw01_SerialNumbers.j0 k a0 a1 true) else ((serial_LessShort.f (IntKind.u16.wrap (a0)) (IntKind.u16.wrap (a1))).bind fun t112 => ((flumeref01_LessShort.f (IntKind.u16.wrap (a0)) (IntKind.u16.wrap (a1))).bind fun t113 => (flumelaw01_SerialNumbers.j0 k a0 a1 (t112 != t113))))))) else (flumelaw01_SerialNumbers.j0 k a0 a1 true)))) else (some false))
theorem flumelaw01_SerialNumbers.mono_l : ∀ k, (∀ y0 y1 y2, LeO (flumelaw01_SerialNumbers.j0 k y0 y1 y2) (flumelaw01_SerialNumbers.j0 (k + 1) y0 y1 y2))
  | 0 => fun _ _ _ r h => by simp [flumelaw01_SerialNumbers.j0] at h
  | k + 1 => by
    have ih0 := flumelaw01_SerialNumbers.mono_l k
    · intro y0 y1 y2
      unfold flumelaw01_SerialNumbers.j0
      repeat' first
      | (with_reducible exact ih0 _ _ _)
      | (with_reducible exact LeO.refl _)
      | (with_reducible exact LeO.none _)
      | (with_reducible refine LeO.ite ?_ ?_)
      | (with_reducible refine LeO.bind ?_ (fun _ => ?_))
      | exact ih0 _ _ _
      | exact LeO.none _
      | refine LeO.ite ?_ ?_
      | refine LeO.bind ?_ (fun _ => ?_)
theorem flumelaw01_SerialNumbers.mono : ∀ a0 a1 k, LeO (flumelaw01_SerialNumbers.f k a0 a1) (flumelaw01_SerialNumbers.f (k + 1) a0 a1) := by
  intro a0 a1 k
  have ih0 := flumelaw01_SerialNumbers.mono_l k
  unfold flumelaw01_SerialNumbers.f
  repeat' first
      | (with_reducible exact ih0 _ _ _)
      | (with_reducible exact LeO.refl _)
      | (with_reducible exact LeO.none _)
      | (with_reducible refine LeO.ite ?_ ?_)
      | (with_reducible refine LeO.bind ?_ (fun _ => ?_))
      | exact ih0 _ _ _
      | exact LeO.none _
      | refine LeO.ite ?_ ?_
      | refine LeO.bind ?_ (fun _ => ?_)
set_option maxHeartbeats 8000000 in
set_option maxRecDepth 100000 in
theorem flumelaw01_SerialNumbers.calls (k : Nat) (a0 : Int) (a1 : Int) (r : Bool) (w : World) (h : flumelaw01_SerialNumbers.f k a0 a1 = some r) :
    Calls Try.prog 7 #[.int .u32 a0, .int .u32 a1] w fun e w' => e = .returned (.bool r) ∧ Drawn0 w w' := by
  have H : ((flumelaw01_first.f).bind fun t107 => (if t107 = true then ((serial_Dist.f a0 a1).bind fun t108 => ((flumeref01_Dist.f a0 a1).bind fun t109 => (if (IntKind.u64.wrap (t108)) = t109 then ((serial_Less.f a0 a1).bind fun t110 => ((flumeref01_Less.f a0 a1).bind fun t111 => (if (t110 != t111) = true then (flumelaw01_SerialNumbers.j0 k a0 a1 true) else ((serial_LessShort.f (IntKind.u16.wrap (a0)) (IntKind.u16.wrap (a1))).bind fun t112 => ((flumeref01_LessShort.f (IntKind.u16.wrap (a0)) (IntKind.u16.wrap (a1))).bind fun t113 => (flumelaw01_SerialNumbers.j0 k a0 a1 (t112 != t113))))))) else (flumelaw01_SerialNumbers.j0 k a0 a1 true)))) else (some false))) = some r := h
  clear h
  replace H := Option.bind_eq_some_iff.mp H
  obtain ⟨t107, A30, H⟩ := H
  replace H : (if t107 = true then ((serial_Dist.f a0 a1).bind fun t108 => ((flumeref01_Dist.f a0 a1).bind fun t109 => (if (IntKind.u64.wrap (t108)) = t109 then ((serial_Less.f a0 a1).bind fun t110 => ((flumeref01_Less.f a0 a1).bind fun t111 => (if (t110 != t111) = true then (flumelaw01_SerialNumbers.j0 k a0 a1 true) else ((serial_LessShort.f (IntKind.u16.wrap (a0)) (IntKind.u16.wrap (a1))).bind fun t112 => ((flumeref01_LessShort.f (IntKind.u16.wrap (a0)) (IntKind.u16.wrap (a1))).bind fun t113 => (flumelaw01_SerialNumbers.j0 k a0 a1 (t112 != t113))))))) else (flumelaw01_SerialNumbers.j0 k a0 a1 true)))) else (some false)) = some r := H
  have A3 := Aside0.mk A30
  clear A30
  by_cases c4 : t107 = true
  · subst c4
    have H1 : ((serial_Dist.f a0 a1).bind fun t108 => ((flumeref01_Dist.f a0 a1).bind fun t109 => (if (IntKind.u64.wrap (t108)) = t109 then ((serial_Less.f a0 a1).bind fun t110 => ((flumeref01_Less.f a0 a1).bind fun t111 => (if (t110 != t111) = true then (flumelaw01_SerialNumbers.j0 k a0 a1 true) else ((serial_LessShort.f (IntKind.u16.wrap (a0)) (IntKind.u16.wrap (a1))).bind fun t112 => ((flumeref01_LessShort.f (IntKind.u16.wrap (a0)) (IntKind.u16.wrap (a1))).bind fun t113 => (flumelaw01_SerialNumbers.j0 k a0 a1 (t112 != t113))))))) else (flumelaw01_SerialNumbers.j0 k a0 a1 true)))) = some r := by rw [if_pos rfl] at H; exact H
    clear H
    have H := H1
    clear H1
    have HC5 := Aside0.mk H
    clear H
    go_enter Try.func7, Try.ntmps7
    go_upto_region 4 with (first | ((with_reducible refine gate_callee (f := 9) rfl ?_); refine goesL_ (some 7) rfl rfl Try.func9 (by kernel_rfl) rfl #[] rfl (by (try simp only [List.map_toArray, List.map_cons, List.map_nil]); first | done | rfl | (simp only [List.length_drop, List.length_take]; rfl)) ?_; (with_reducible refine (flumelaw01_first.calls  true _ A3.out).mono ?_); rintro e w' ⟨rfl, ⟨nd, rfl⟩⟩; refine ⟨_, rfl, ?_⟩))
    (try simp only [Act.put, List.setIfInBounds_toArray, List.set_cons_zero, List.set_cons_succ])
    go_cut [38] (fun v38 wc => ∃ (kq : Nat) (x38_4 : Bool), v38 = .bool x38_4 ∧ Aside0 (flumelaw01_SerialNumbers.j0 kq a0 a1 x38_4 = some r) ∧ Aside0 (kq ≤ k) ∧ Drawn0 w wc)
    case first =>
      have H := HC5.out
      clear HC5
      replace H := Option.bind_eq_some_iff.mp H
      obtain ⟨t108, A60, H⟩ := H
      replace H : ((flumeref01_Dist.f a0 a1).bind fun t109 => (if (IntKind.u64.wrap (t108)) = t109 then ((serial_Less.f a0 a1).bind fun t110 => ((flumeref01_Less.f a0 a1).bind fun t111 => (if (t110 != t111) = true then (flumelaw01_SerialNumbers.j0 k a0 a1 true) else ((serial_LessShort.f (IntKind.u16.wrap (a0)) (IntKind.u16.wrap (a1))).bind fun t112 => ((flumeref01_LessShort.f (IntKind.u16.wrap (a0)) (IntKind.u16.wrap (a1))).bind fun t113 => (flumelaw01_SerialNumbers.j0 k a0 a1 (t112 != t113))))))) else (flumelaw01_SerialNumbers.j0 k a0 a1 true))) = some r := H
      have A6 := Aside0.mk A60
      clear A60
      replace H := Option.bind_eq_some_iff.mp H
      obtain ⟨t109, A70, H⟩ := H
      replace H : (if (IntKind.u64.wrap (t108)) = t109 then ((serial_Less.f a0 a1).bind fun t110 => ((flumeref01_Less.f a0 a1).bind fun t111 => (if (t110 != t111) = true then (flumelaw01_SerialNumbers.j0 k a0 a1 true) else ((serial_LessShort.f (IntKind.u16.wrap (a0)) (IntKind.u16.wrap (a1))).bind fun t112 => ((flumeref01_LessShort.f (IntKind.u16.wrap (a0)) (IntKind.u16.wrap (a1))).bind fun t113 => (flumelaw01_SerialNumbers.j0 k a0 a1 (t112 != t113))))))) else (flumelaw01_SerialNumbers.j0 k a0 a1 true)) = some r := H
      have A7 := Aside0.mk A70
      clear A70
      by_cases c8 : (IntKind.u64.wrap (t108)) = t109
      · rw [if_pos c8] at H
        have c8b0 : ((IntKind.u64.wrap (t108)) == t109) = true := beq_iff_eq.mpr c8
        have c8b1 : ((IntKind.u64.wrap (t108)) != t109) = false := bne_eq_false_iff_eq.mpr c8
        clear c8
        (first | rw [c8b0] | (simp only [i64_w, i32_w]; rw [c8b0]) | skip)
        replace H := Option.bind_eq_some_iff.mp H
        obtain ⟨t110, A90, H⟩ := H
        replace H : ((flumeref01_Less.f a0 a1).bind fun t111 => (if (t110 != t111) = true then (flumelaw01_SerialNumbers.j0 k a0 a1 true) else ((serial_LessShort.f (IntKind.u16.wrap (a0)) (IntKind.u16.wrap (a1))).bind fun t112 => ((flumeref01_LessShort.f (IntKind.u16.wrap (a0)) (IntKind.u16.wrap (a1))).bind fun t113 => (flumelaw01_SerialNumbers.j0 k a0 a1 (t112 != t113)))))) = some r := H
        have A9 := Aside0.mk A90
        clear A90
        replace H := Option.bind_eq_some_iff.mp H
        obtain ⟨t111, A100, H⟩ := H
        replace H : (if (t110 != t111) = true then (flumelaw01_SerialNumbers.j0 k a0 a1 true) else ((serial_LessShort.f (IntKind.u16.wrap (a0)) (IntKind.u16.wrap (a1))).bind fun t112 => ((flumeref01_LessShort.f (IntKind.u16.wrap (a0)) (IntKind.u16.wrap (a1))).bind fun t113 => (flumelaw01_SerialNumbers.j0 k a0 a1 (t112 != t113))))) = some r := H
        have A10 := Aside0.mk A100
        clear A100
        by_cases c11 : (t110 != t111) = true
        · rw [if_pos c11] at H
          have c11b0 : (t110 != t111) = true := c11
          (try (have c11b1 : decide (t110 = t111) = false := by simpa using c11))
          (try (have c11b2 : (t110 == t111) = false := by simpa using c11))
          (try (have c11b3 : ¬ (t110 = t111) := by simpa using c11))
          clear c11
          have H' := Aside0.mk H
          clear H
          go_wp2_with (first | ((with_reducible refine gate_callee (f := 14) rfl ?_); refine goesL_ (some 15) rfl rfl Try.func14 (by kernel_rfl) rfl #[.int .u32 a0, .int .u32 a1] rfl (by (try simp only [List.map_toArray, List.map_cons, List.map_nil]); first | done | rfl | (simp only [List.length_drop, List.length_take]; rfl)) ?_; (with_reducible refine (serial_Dist.calls a0 a1 t108 _ A6.out).mono ?_); rintro e w' ⟨rfl, ⟨nd, rfl⟩⟩; refine ⟨_, rfl, ?_⟩) | ((with_reducible refine gate_callee (f := 13) rfl ?_); refine goesL_ (some 19) rfl rfl Try.func13 (by kernel_rfl) rfl #[.int .u32 a0, .int .u32 a1] rfl (by (try simp only [List.map_toArray, List.map_cons, List.map_nil]); first | done | rfl | (simp only [List.length_drop, List.length_take]; rfl)) ?_; (with_reducible refine (flumeref01_Dist.calls a0 a1 t109 _ A7.out).mono ?_); rintro e w' ⟨rfl, ⟨nd, rfl⟩⟩; refine ⟨_, rfl, ?_⟩) | (go_at_call 10; (with_reducible refine (serial_Less.calls a0 a1 t110 _ A9.out).mono ?_); rintro e w' ⟨rfl, ⟨nd, rfl⟩⟩) | (go_at_call 15; (with_reducible refine (flumeref01_Less.calls a0 a1 t111 _ A10.out).mono ?_); rintro e w' ⟨rfl, ⟨nd, rfl⟩⟩))
          go_meet
          case rel => exact ⟨_, (true), (by first | rfl | (simp; done) | (simp [*]; done)), H', ⟨by first | omega | exact Nat.le_refl _⟩, by repeat (first | exact Drawn0.refl _ | apply Drawn0.step)⟩
        · rw [if_neg c11] at H
          have c11b0 : (t110 != t111) = false := by simpa using c11
          (try (have c11b1 : decide (t110 = t111) = true := by simpa using c11))
          (try (have c11b2 : (t110 == t111) = true := by simpa using c11))
          clear c11
          replace H := Option.bind_eq_some_iff.mp H
          obtain ⟨t112, A120, H⟩ := H
          replace H : ((flumeref01_LessShort.f (IntKind.u16.wrap (a0)) (IntKind.u16.wrap (a1))).bind fun t113 => (flumelaw01_SerialNumbers.j0 k a0 a1 (t112 != t113))) = some r := H
          have A12 := Aside0.mk A120
          clear A120
          replace H := Option.bind_eq_some_iff.mp H
          obtain ⟨t113, A130, H⟩ := H
          replace H : (flumelaw01_SerialNumbers.j0 k a0 a1 (t112 != t113)) = some r := H
          have A13 := Aside0.mk A130
          clear A130
          have H' := Aside0.mk H
          clear H
          go_wp2_with (first | ((with_reducible refine gate_callee (f := 14) rfl ?_); refine goesL_ (some 15) rfl rfl Try.func14 (by kernel_rfl) rfl #[.int .u32 a0, .int .u32 a1] rfl (by (try simp only [List.map_toArray, List.map_cons, List.map_nil]); first | done | rfl | (simp only [List.length_drop, List.length_take]; rfl)) ?_; (with_reducible refine (serial_Dist.calls a0 a1 t108 _ A6.out).mono ?_); rintro e w' ⟨rfl, ⟨nd, rfl⟩⟩; refine ⟨_, rfl, ?_⟩) | ((with_reducible refine gate_callee (f := 13) rfl ?_); refine goesL_ (some 19) rfl rfl Try.func13 (by kernel_rfl) rfl #[.int .u32 a0, .int .u32 a1] rfl (by (try simp only [List.map_toArray, List.map_cons, List.map_nil]); first | done | rfl | (simp only [List.length_drop, List.length_take]; rfl)) ?_; (with_reducible refine (flumeref01_Dist.calls a0 a1 t109 _ A7.out).mono ?_); rintro e w' ⟨rfl, ⟨nd, rfl⟩⟩; refine ⟨_, rfl, ?_⟩) | (go_at_call 10; (with_reducible refine (serial_Less.calls a0 a1 t110 _ A9.out).mono ?_); rintro e w' ⟨rfl, ⟨nd, rfl⟩⟩) | (go_at_call 15; (with_reducible refine (flumeref01_Less.calls a0 a1 t111 _ A10.out).mono ?_); rintro e w' ⟨rfl, ⟨nd, rfl⟩⟩) | (go_at_call 11; (with_reducible refine (serial_LessShort.calls (IntKind.u16.wrap (a0)) (IntKind.u16.wrap (a1)) t112 _ A12.out).mono ?_); rintro e w' ⟨rfl, ⟨nd, rfl⟩⟩) | (go_at_call 16; (with_reducible refine (flumeref01_LessShort.calls (IntKind.u16.wrap (a0)) (IntKind.u16.wrap (a1)) t113 _ A13.out).mono ?_); rintro e w' ⟨rfl, ⟨nd, rfl⟩⟩))
          go_meet
          case rel => exact ⟨_, ((t112 != t113)), (by first | rfl | (simp; done) | (simp [*]; done)), H', ⟨by first | omega | exact Nat.le_refl _⟩, by repeat (first | exact Drawn0.refl _ | apply Drawn0.step)⟩
      · rw [if_neg c8] at H
        have c8b0 : ((IntKind.u64.wrap (t108)) == t109) = false := beq_eq_false_iff_ne.mpr c8
        have c8b1 : ((IntKind.u64.wrap (t108)) != t109) = true := bne_iff_ne.mpr c8
        (first | rw [c8b0] | (simp only [i64_w, i32_w]; rw [c8b0]) | skip)
        have H' := Aside0.mk H
        clear H
        go_wp2_with (first | ((with_reducible refine gate_callee (f := 14) rfl ?_); refine goesL_ (some 15) rfl rfl Try.func14 (by kernel_rfl) rfl #[.int .u32 a0, .int .u32 a1] rfl (by (try simp only [List.map_toArray, List.map_cons, List.map_nil]); first | done | rfl | (simp only [List.length_drop, List.length_take]; rfl)) ?_; (with_reducible refine (serial_Dist.calls a0 a1 t108 _ A6.out).mono ?_); rintro e w' ⟨rfl, ⟨nd, rfl⟩⟩; refine ⟨_, rfl, ?_⟩) | ((with_reducible refine gate_callee (f := 13) rfl ?_); refine goesL_ (some 19) rfl rfl Try.func13 (by kernel_rfl) rfl #[.int .u32 a0, .int .u32 a1] rfl (by (try simp only [List.map_toArray, List.map_cons, List.map_nil]); first | done | rfl | (simp only [List.length_drop, List.length_take]; rfl)) ?_; (with_reducible refine (flumeref01_Dist.calls a0 a1 t109 _ A7.out).mono ?_); rintro e w' ⟨rfl, ⟨nd, rfl⟩⟩; refine ⟨_, rfl, ?_⟩))
        go_meet
        case rel => exact ⟨_, (true), (by first | rfl | (simp; done) | (simp [*]; done)), H', ⟨by first | omega | exact Nat.le_refl _⟩, by repeat (first | exact Drawn0.refl _ | apply Drawn0.step)⟩
    case rest =>
      clear HC5
      try clear c1
      try clear p2
      try clear c4
      try clear c7
      try clear c8
      try clear c8b0
      try clear c8b1
      try clear c9
      try clear c11
      try clear c11b0
      try clear c11b1
      try clear c11b2
      try clear c13
      obtain ⟨kq, x38_4, rfl, HA, HJ4, ⟨mc4, rfl⟩⟩ := hcut
      cases kq with
      | zero => exact absurd HA.out (by simp [flumelaw01_SerialNumbers.j0])
      | succ kj4 =>
        have H := HA.out
        clear HA
        simp only [flumelaw01_SerialNumbers.j0] at H
        by_cases c14 : x38_4 = true
        · subst c14
          have H1 : (some false) = some r := by rw [if_pos rfl] at H; exact H
          clear H
          have H := H1
          clear H1
          obtain rfl := Option.some.inj H
          go_wp2
          go_ret
          exact ⟨by first | rfl | (simp; done) | (simp [*]; done), by repeat (first | exact Drawn0.refl _ | apply Drawn0.step)⟩
        · replace c14 := Bool.eq_false_iff.mpr c14
          subst c14
          have H1 : ((flumeref01_Less.f a0 a1).bind fun t114 => (if t114 = true then ((serial_Later.f a0 a1).bind fun t115 => (some (t115 == a1))) else ((serial_Later.f a0 a1).bind fun t116 => (some (t116 == a0))))) = some r := by rw [if_neg (show ¬ (false = true) by decide)] at H; exact H
          clear H
          have H := H1
          clear H1
          replace H := Option.bind_eq_some_iff.mp H
          obtain ⟨t114, A150, H⟩ := H
          replace H : (if t114 = true then ((serial_Later.f a0 a1).bind fun t115 => (some (t115 == a1))) else ((serial_Later.f a0 a1).bind fun t116 => (some (t116 == a0)))) = some r := H
          have A15 := Aside0.mk A150
          clear A150
          by_cases c16 : t114 = true
          · subst c16
            have H1 : ((serial_Later.f a0 a1).bind fun t115 => (some (t115 == a1))) = some r := by rw [if_pos rfl] at H; exact H
            clear H
            have H := H1
            clear H1
            replace H := Option.bind_eq_some_iff.mp H
            obtain ⟨t115, A170, H⟩ := H
            replace H : (some (t115 == a1)) = some r := H
            have A17 := Aside0.mk A170
            clear A170
            obtain rfl := Option.some.inj H
            go_wp2_with (first | ((with_reducible refine gate_callee (f := 15) rfl ?_); refine goesL_ (some 41) rfl rfl Try.func15 (by kernel_rfl) rfl #[.int .u32 a0, .int .u32 a1] rfl (by (try simp only [List.map_toArray, List.map_cons, List.map_nil]); first | done | rfl | (simp only [List.length_drop, List.length_take]; rfl)) ?_; (with_reducible refine (flumeref01_Less.calls a0 a1 true _ A15.out).mono ?_); rintro e w' ⟨rfl, ⟨nd, rfl⟩⟩; refine ⟨_, rfl, ?_⟩) | ((with_reducible refine gate_callee (f := 17) rfl ?_); refine goesL_ (some 44) rfl rfl Try.func17 (by kernel_rfl) rfl #[.int .u32 a0, .int .u32 a1] rfl (by (try simp only [List.map_toArray, List.map_cons, List.map_nil]); first | done | rfl | (simp only [List.length_drop, List.length_take]; rfl)) ?_; (with_reducible refine (serial_Later.calls a0 a1 t115 _ A17.out).mono ?_); rintro e w' ⟨rfl, ⟨nd, rfl⟩⟩; refine ⟨_, rfl, ?_⟩))
            go_ret
            exact ⟨by first | rfl | (simp; done) | (simp [*]; done), by repeat (first | exact Drawn0.refl _ | apply Drawn0.step)⟩
          · replace c16 := Bool.eq_false_iff.mpr c16
            subst c16
            have H1 : ((serial_Later.f a0 a1).bind fun t116 => (some (t116 == a0))) = some r := by rw [if_neg (show ¬ (false = true) by decide)] at H; exact H
            clear H
            have H := H1
            clear H1
            replace H := Option.bind_eq_some_iff.mp H
            obtain ⟨t116, A180, H⟩ := H
            replace H : (some (t116 == a0)) = some r := H
            have A18 := Aside0.mk A180
            clear A180
            obtain rfl := Option.some.inj H
            go_wp2_with (first | ((with_reducible refine gate_callee (f := 15) rfl ?_); refine goesL_ (some 41) rfl rfl Try.func15 (by kernel_rfl) rfl #[.int .u32 a0, .int .u32 a1] rfl (by (try simp only [List.map_toArray, List.map_cons, List.map_nil]); first | done | rfl | (simp only [List.length_drop, List.length_take]; rfl)) ?_; (with_reducible refine (flumeref01_Less.calls a0 a1 false _ A15.out).mono ?_); rintro e w' ⟨rfl, ⟨nd, rfl⟩⟩; refine ⟨_, rfl, ?_⟩) | ((with_reducible refine gate_callee (f := 17) rfl ?_); refine goesL_ (some 49) rfl rfl Try.func17 (by kernel_rfl) rfl #[.int .u32 a0, .int .u32 a1] rfl (by (try simp only [List.map_toArray, List.map_cons, List.map_nil]); first | done | rfl | (simp only [List.length_drop, List.length_take]; rfl)) ?_; (with_reducible refine (serial_Later.calls a0 a1 t116 _ A18.out).mono ?_); rintro e w' ⟨rfl, ⟨nd, rfl⟩⟩; refine ⟨_, rfl, ?_⟩))
            go_ret
            exact ⟨by first | rfl | (simp; done) | (simp [*]; done), by repeat (first | exact Drawn0.refl _ | apply Drawn0.step)⟩
  · replace c4 := Bool.eq_false_iff.mpr c4
    subst c4
    have H1 : (some false) = some r := by rw [if_neg (show ¬ (false = true) by decide)] at H; exact H
    clear H
    have H := H1
    clear H1
    obtain rfl := Option.some.inj H
    go_enter Try.func7, Try.ntmps7
    go_wp2_with (first | ((with_reducible refine gate_callee (f := 9) rfl ?_); refine goesL_ (some 7) rfl rfl Try.func9 (by kernel_rfl) rfl #[] rfl (by (try simp only [List.map_toArray, List.map_cons, List.map_nil]); first | done | rfl | (simp only [List.length_drop, List.length_take]; rfl)) ?_; (with_reducible refine (flumelaw01_first.calls  false _ A3.out).mono ?_); rintro e w' ⟨rfl, ⟨nd, rfl⟩⟩; refine ⟨_, rfl, ?_⟩))
    go_ret
    exact ⟨by first | rfl | (simp; done) | (simp [*]; done), by repeat (first | exact Drawn0.refl _ | apply Drawn0.step)⟩

/-- THE ONE PURE STATEMENT of flumelaw01_SerialNumbers: yours. -/
def flumelaw01_SerialNumbers.Pure : Prop := ∀ (a0 : Int) (a1 : Int), (Lit.int .u32 a0).wf = true → (Lit.int .u32 a1).wf = true → ∃ k, flumelaw01_SerialNumbers.f k a0 a1 = some true
theorem flumelaw01_SerialNumbers.walk (P : flumelaw01_SerialNumbers.Pure) (a0 : Int) (a1 : Int) (w : World) (w0 : (Lit.int .u32 a0).wf = true) (w1 : (Lit.int .u32 a1).wf = true) :
    Calls Try.prog 7 #[.int .u32 a0, .int .u32 a1] w fun e w' => e = .returned (.bool true) ∧ Below w.heap.size w w' := by
  obtain ⟨k, h⟩ := P a0 a1 w0 w1
  refine (flumelaw01_SerialNumbers.calls k a0 a1 true w h).mono ?_
  rintro e w' ⟨rfl, hd⟩
  exact ⟨rfl, hd.below⟩

end Go.Proofs.Ytnnkabgbkbolgaa.PSerialNumbers
