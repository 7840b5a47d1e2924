/- The contract of chunk.Put. Conditions: the chunk's lists lie in blocks of before, none too long for a machine. -/
import Derived.Test.YtaifihoheieneaaZChkBody
namespace Go.Proofs.Ytaifihoheieneaa.Chk
open Go.RowKit Go.Proofs.Ytaifihoheieneaa.Mem Go.Proofs.Ytaifihoheieneaa.Octet Go.Proofs.Ytaifihoheieneaa.Prm
set_option linter.unusedVariables false
set_option linter.unusedSimpArgs false
theorem body_calls (base g lo hi : Nat) (cs : Array Value) (c : Ck) (w : World) (W0 : WtrN w base g []) (hC : CkV w lo hi cs c) (hhi : hi ≤ base) (hBd : CkB c) (hL : CkL c) (hk : kn c.k = true) :
    Calls Try.prog 22 #[.pointer (some ⟨g, 0, none⟩), .agg cs] w (BodyP w base g c) := by
  simp [kn] at hk
  rcases hk with hk | hk | hk | hk | hk | hk | hk | hk | hk | hk | hk | hk | hk | hk | hk | hk | hk
  · exact body_0 base g lo hi cs c w W0 hC hhi hBd hL hk
  · exact body_1 base g lo hi cs c w W0 hC hhi hBd hL hk
  · exact body_2 base g lo hi cs c w W0 hC hhi hBd hL hk
  · exact body_3 base g lo hi cs c w W0 hC hhi hBd hL hk
  · exact body_4 base g lo hi cs c w W0 hC hhi hBd hL hk
  · exact body_5 base g lo hi cs c w W0 hC hhi hBd hL hk
  · exact body_6 base g lo hi cs c w W0 hC hhi hBd hL hk
  · exact body_7 base g lo hi cs c w W0 hC hhi hBd hL hk
  · exact body_8 base g lo hi cs c w W0 hC hhi hBd hL hk
  · exact body_9 base g lo hi cs c w W0 hC hhi hBd hL hk
  · exact body_10 base g lo hi cs c w W0 hC hhi hBd hL hk
  · exact body_11 base g lo hi cs c w W0 hC hhi hBd hL hk
  · exact body_14 base g lo hi cs c w W0 hC hhi hBd hL hk
  · exact body_64 base g lo hi cs c w W0 hC hhi hBd hL hk
  · exact body_130 base g lo hi cs c w W0 hC hhi hBd hL hk
  · exact body_192 base g lo hi cs c w W0 hC hhi hBd hL hk
  · exact body_194 base g lo hi cs c w W0 hC hhi hBd hL hk
/-- What comes out: the bytes, or none. -/
def cO (c : Ck) : List Int := if cE c = 0 then cB c else []
theorem cO_bad {c : Ck} (h : cE c ≠ 0) : cO c = [] := by unfold cO; rw [if_neg h]
theorem cO_ok {c : Ck} (h : cE c = 0) : cO c = cB c := by unfold cO; rw [if_pos h]
theorem cE_kn {c : Ck} (h : kn c.k = false) : cE c = 60 := by unfold cE; rw [if_pos h]
theorem cE_body {c : Ck} (h : kn c.k = true) (hb : bE c ≠ 0) : cE c = bE c := by unfold cE; rw [if_neg (by rw [h]; decide), if_pos hb]
theorem cE_long {c : Ck} (h : kn c.k = true) (hb : bE c = 0) (hl : 65535 < (bB c).length + 4) : cE c = 43 := by unfold cE; rw [if_neg (by rw [h]; decide), if_neg (by rw [hb]; decide), if_pos hl]
theorem cE_ok {c : Ck} (h : kn c.k = true) (hb : bE c = 0) (hl : ¬ 65535 < (bB c).length + 4) : cE c = 0 := by unfold cE; rw [if_neg (by rw [h]; decide), if_neg (by rw [hb]; decide), if_neg hl]
theorem WtrN.keep {w w' : World} {base g : Nat} {bs : List Int} (h : WtrN w base g bs) (f : Below w.heap.size w w') : WtrN w' base g bs := h.fr (Bl.fr f) (fun k h1 h2 => by omega)
/-- What chunk.Put hands back. -/
def PutC (w : World) (c : Ck) (e : Ending) (w' : World) : Prop :=
  Below w.heap.size w w' ∧ ∃ A p, e = .returned (.tuple #[.slice A (cO c).length p, .int .i64 (cE c)]) ∧ OwnB w' w.heap.size 5 (.slice A (cO c).length p) (cO c)
theorem cB_end {k f : Int} {xs : List Int} : ([] : List Int) ++ [k] ++ [f] ++ b16 (((xs.length + 4 : Nat) : Int)) ++ xs ++ List.replicate ((4 - (([] : List Int) ++ [k] ++ [f] ++ b16 (((xs.length + 4 : Nat) : Int)) ++ xs).length % 4) % 4) 0 = [k, f] ++ b16 ((xs.length + 4 : Nat) : Int) ++ xs ++ List.replicate ((4 - (xs.length + 4) % 4) % 4) 0 := by
  have e : (([] : List Int) ++ [k] ++ [f] ++ b16 (((xs.length + 4 : Nat) : Int)) ++ xs).length = xs.length + 4 := by simp [b16_len]; omega
  rw [e]
  simp
set_option maxHeartbeats 4000000 in
set_option maxRecDepth 100000 in
theorem cput_calls (lo hi : Nat) (cs : Array Value) (c : Ck) (w : World) (hC : CkV w lo hi cs c) (hhi : hi ≤ w.heap.size) (hBd : CkB c) (hL : CkL c) :
    Calls Try.prog 13 #[.agg cs] w (PutC w c) := by
  have hsz := hC.size
  have hup := Try.underlying31
  have B0 : Below w.heap.size w (w.alloc (.cells cs 31)) := (Below.refl _ w).alloc (Nat.le_refl _) _
  have bC := Blk.new w cs 31
  have cc := (bC.cell 0).trans hC.c0
  have hC1 := hC.fr (S := nothing) ((Fr.refl _ w).alloc (.cells cs 31)) (fun _ _ _ h => h)
  have hlt : w.heap.size < (w.alloc (.cells cs 31)).heap.size := bC.lt
  unfold PutC
  cases hkn : kn c.k with
  | false =>
    have he := cE_kn hkn
    rw [cO_bad (by rw [he]; decide), he]
    go_enter Try.func13, Try.ntmps13
    go_wp2_with fail
    refine (known_calls _ _).mono ?_
    rintro e w1 ⟨rfl, rfl⟩
    rw [hkn]
    clear he hC1
    go_wp2
    go_ret2
    exact ⟨B0, none, 0, rfl, OwnB.nil _ _ _⟩
  | true =>
    by_cases hb : bE c = 0
    · have hlen := bB_len hL
      by_cases hl : 65535 < (bB c).length + 4
      · have he := cE_long hkn hb hl
        rw [cO_bad (by rw [he]; decide), he]
        have hd : decide ((65535 : Int) < (bB c).length + 4) = true := decide_eq_true (by omega)
        clear he
        go_enter Try.func13, Try.ntmps13
        go_wp2_with fail
        refine (known_calls _ _).mono ?_
        rintro e w1 ⟨rfl, rfl⟩
        rw [hkn]
        generalize w.alloc (.cells cs 31) = w1 at *
        have WI := WtrN.new w1
        have CB := body_calls _ _ lo hi cs c _ WI (hC1.fr (S := nothing) ((Fr.refl _ w1).alloc (.cells #[.slice none 0 0] 60)) (fun _ _ _ h => h)) (by omega) hBd hL hkn
        unfold BodyP at CB
        have bC2 := bC.alloc (.cells #[.slice none 0 0] 60)
        have B1 := B0.alloc B0.size (.cells #[.slice none 0 0] 60)
        rw [hb] at CB
        have HCB := Lib.hid CB
        clear CB cc
        go_upto_region 4 with fail
        refine wp_region_lit ?_
        refine wpList_plain rfl (fun K hK => ?_)
        refine oper_load rfl rfl bC2 hup rfl (by rw [hsz]; kernel_rfl) ?_
        refine hK _ _ ?_
        clear hK K
        go_wp2_with fail
        refine HCB.out.mono ?_
        rintro e w3 ⟨rfl, B3, hW⟩
        have B4 := Bl.trans B1 (Bl.low B3 (Nat.le_of_lt hlt))
        have W := hW (by first | rfl | trivial)
        generalize bB c = xs at *
        clear hW hb hl
        go_wp2_with fail
        refine (lenn_calls _ _ _ _ W).mono ?_
        rintro e w5 ⟨rfl, rfl⟩
        go_wp2_with fail
        refine (long_calls _ _).mono ?_
        rintro e w6 ⟨rfl, rfl⟩
        go_wp2
        go_ret2
        exact ⟨B4, none, 0, rfl, OwnB.nil _ _ _⟩
      · have he := cE_ok hkn hb hl
        have hd : decide ((65535 : Int) < (bB c).length + 4) = false := decide_eq_false (by omega)
        have hw16 : IntKind.u16.wrap (((bB c).length : Int) + 4) = (((bB c).length + 4 : Nat) : Int) := by
          simp [IntKind.wrap, IntKind.bits, IntKind.signed]
          omega
        have HW16 := Lib.hid hw16
        have hcB : cB c = [c.k, fl c] ++ b16 ((bB c).length + 4 : Nat) ++ bB c ++ List.replicate ((4 - ((bB c).length + 4) % 4) % 4) 0 := rfl
        rw [cO_ok he, he]
        obtain ⟨zs, hzs⟩ : ∃ zs, cB c = zs := ⟨_, rfl⟩
        rw [hzs]
        have HZS := Lib.hid (hcB.symm.trans hzs)
        clear he hw16 hcB hzs
        go_enter Try.func13, Try.ntmps13
        go_wp2_with fail
        refine (known_calls _ _).mono ?_
        rintro e w1 ⟨rfl, rfl⟩
        rw [hkn]
        generalize w.alloc (.cells cs 31) = w1 at *
        have WI := WtrN.new w1
        have CB := body_calls _ _ lo hi cs c _ WI (hC1.fr (S := nothing) ((Fr.refl _ w1).alloc (.cells #[.slice none 0 0] 60)) (fun _ _ _ h => h)) (by omega) hBd hL hkn
        unfold BodyP at CB
        have bC2 := bC.alloc (.cells #[.slice none 0 0] 60)
        have B1 := B0.alloc B0.size (.cells #[.slice none 0 0] 60)
        rw [hb] at CB
        have HCB := Lib.hid CB
        clear CB cc
        go_upto_region 4 with fail
        refine wp_region_lit ?_
        refine wpList_plain rfl (fun K hK => ?_)
        refine oper_load rfl rfl bC2 hup rfl (by rw [hsz]; kernel_rfl) ?_
        refine hK _ _ ?_
        clear hK K
        go_wp2_with fail
        refine HCB.out.mono ?_
        rintro e w3 ⟨rfl, B3, hW⟩
        have B4 := Bl.trans B1 (Bl.low B3 (Nat.le_of_lt hlt))
        have W := hW (by first | rfl | trivial)
        have hl2 : (bB c).length + 4 ≤ 65535 := by omega
        have HC3 := Lib.hid ((hC1.fr (S := nothing) ((Fr.refl _ w1).alloc (.cells #[.slice none 0 0] 60)) (fun _ _ _ h => h)).bl B3 (by omega))
        have bC3 := bC2.fr (Bl.fr B3) (fun h => by omega)
        clear bC2 bC hC1 HCB B3 B1 B0 hW hb hl WI
        generalize bB c = xs at *
        go_wp2_with fail
        refine (lenn_calls _ _ _ _ W).mono ?_
        rintro e w5 ⟨rfl, rfl⟩
        go_wp2_with fail
        refine (long_calls _ _).mono ?_
        rintro e w6 ⟨rfl, rfl⟩
        have WI := fun w' f => WtrN.keep (w' := w') W f
        have KC := fun w' (f : Below w6.heap.size w6 w') => HC3.out.bl f (by have := B4.size; omega)
        have KB := fun w' (f : Below w6.heap.size w6 w') => bC3.fr (Bl.fr f) (fun h => by have := bC3.lt; omega)
        have T := (Below.refl w6.heap.size w6).alloc (Nat.le_refl _) (.cells #[.slice none 0 0] 60)
        have WO := WtrN.new w6
        have HKB := Lib.hid KB
        have HKC := Lib.hid KC
        have HWI := Lib.hid WI
        clear KB KC WI bC3 W HC3
        have cc := ((HKB.out _ T).cell 0).trans hC.c0
        go_wp2_with fail
        refine (u8n_calls _ _ _ _ _ WO (by simp)).mono ?_
        rintro e w7 ⟨rfl, W2, f⟩
        replace T := Bl.trans T f
        clear WO f
        have WO := W2
        clear W2
        have bC7 := HKB.out _ T
        clear hd cc
        go_upto_region 11 with fail
        refine wp_region_lit ?_
        refine wpList_plain rfl (fun K hK => ?_)
        refine oper_load rfl rfl bC7 hup rfl (by rw [hsz]; kernel_rfl) ?_
        refine hK _ _ ?_
        clear hK K
        go_wp2_with fail
        refine (flags_calls _ _ _ _ _ (HKC.out _ T)).mono ?_
        rintro e w8 ⟨rfl, f8⟩
        have h58 := T.size
        replace T := Bl.trans T (Bl.low f8 T.size)
        replace WO := WO.fr (Fr.of_below (S := nothing) f8) (fun _ _ h => h)
        clear f8 bC7
        go_wp2_with fail
        refine (u8n_calls _ _ _ _ _ WO (by simp)).mono ?_
        rintro e w9 ⟨rfl, W2, f⟩
        replace T := Bl.trans T f
        clear WO f
        have WO := W2
        clear W2
        go_wp2_with fail
        refine (lenn_calls _ _ _ _ (HWI.out _ T)).mono ?_
        rintro e w10 ⟨rfl, rfl⟩
        go_wp2_with fail
        refine (u16n_calls _ _ _ _ _ WO (by simp)).mono ?_
        rintro e w11 ⟨rfl, W2, f⟩
        replace T := Bl.trans T f
        clear WO f
        have WO := W2
        clear W2
        go_wp2_with fail
        refine (outn_calls _ _ _ _ (HWI.out _ T) (by omega)).mono ?_
        rintro e w12 ⟨Ai, ni, pi, rfl, rfl, -, oi, -, f12⟩
        replace T := Bl.trans T (Bl.low f12 T.size)
        replace WO := WO.fr (Fr.of_below (S := nothing) f12) (fun _ _ h => h)
        clear f12
        go_wp2_with fail
        refine (putn_calls _ _ _ _ _ _ xs _ WO (SlB.of_own oi) (by simp; omega)).mono ?_
        rintro e w13 ⟨rfl, W2, f⟩
        replace T := Bl.trans T f
        clear WO f
        have WO := W2
        clear W2
        clear oi
        go_wp2_with fail
        refine (padn_calls _ _ _ 4 _ WO (by simp; omega) (by decide)).mono ?_
        rintro e w14 ⟨rfl, W2, f⟩
        replace T := Bl.trans T f
        clear WO f
        have WO := W2
        clear W2
        have WQ : WtrN w14 w6.heap.size w6.heap.size ([c.k, fl c] ++ b16 ((xs.length + 4 : Nat) : Int) ++ xs ++ List.replicate ((4 - (xs.length + 4) % 4) % 4) 0) := by
          rw [← cB_end]
          unfold b16
          rw [show ((xs.length + 4 : Nat) : Int) = (xs.length : Int) + 4 by omega]
          exact WO
        have hrl : ([c.k, fl c] ++ b16 ((xs.length + 4 : Nat) : Int) ++ xs ++ List.replicate ((4 - (xs.length + 4) % 4) % 4) 0).length ≤ 140737488355328 := by
          simp [b16_len]
          omega
        rw [HZS.out] at WQ hrl
        clear WO HW16 HZS
        go_wp2_with fail
        refine (outn_calls _ _ _ _ WQ hrl).mono ?_
        rintro e w15 ⟨Az, nz, pz, rfl, rfl, -, oz, -, f15⟩
        have B5 := Bl.trans B4 (Bl.low T B4.size)
        have B6 := Bl.trans B5 (Bl.low f15 B5.size)
        go_wp2
        go_ret2
        exact ⟨B6, _, _, rfl, OwnB.low oz B5.size⟩
    · have he := cE_body hkn hb
      rw [cO_bad (by rw [he]; exact hb), he]
      clear he
      obtain ⟨E, hE⟩ : ∃ E, bE c = E := ⟨_, rfl⟩
      rw [hE] at hb ⊢
      have hne : (E != 0) = true := by simpa using hb
      go_enter Try.func13, Try.ntmps13
      go_wp2_with fail
      refine (known_calls _ _).mono ?_
      rintro e w1 ⟨rfl, rfl⟩
      rw [hkn]
      generalize w.alloc (.cells cs 31) = w1 at *
      have WI := WtrN.new w1
      have CB := body_calls _ _ lo hi cs c _ WI (hC1.fr (S := nothing) ((Fr.refl _ w1).alloc (.cells #[.slice none 0 0] 60)) (fun _ _ _ h => h)) (by omega) hBd hL hkn
      unfold BodyP at CB
      have bC2 := bC.alloc (.cells #[.slice none 0 0] 60)
      have B1 := B0.alloc B0.size (.cells #[.slice none 0 0] 60)
      rw [hE] at CB
      clear hE
      have HCB := Lib.hid CB
      clear CB cc
      go_upto_region 4 with fail
      refine wp_region_lit ?_
      refine wpList_plain rfl (fun K hK => ?_)
      refine oper_load rfl rfl bC2 hup rfl (by rw [hsz]; kernel_rfl) ?_
      refine hK _ _ ?_
      clear hK K
      go_wp2_with fail
      refine HCB.out.mono ?_
      rintro e w3 ⟨rfl, B3, hW⟩
      have B4 := Bl.trans B1 (Bl.low B3 (Nat.le_of_lt hlt))
      clear hW hb HCB
      go_wp2
      go_ret2
      exact ⟨B4, none, 0, rfl, OwnB.nil _ _ _⟩
end Go.Proofs.Ytaifihoheieneaa.Chk
