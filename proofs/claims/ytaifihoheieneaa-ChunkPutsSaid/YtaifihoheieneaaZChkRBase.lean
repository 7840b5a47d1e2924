/- Contracts of flumeref06.Known and flumeref06.put; a row grown in new memory. Conditions: each names its blocks and the bounds. -/
import Derived.Test.YtaifihoheieneaaZChkPut
import Derived.Test.YtaifihoheieneaaZOcR
import Derived.Deep.QuietTactic
import Derived.Test.YtaifihoheieneaaZPrmMath
namespace Go.Proofs.Ytaifihoheieneaa.Chk
open Go.RowKit Go.Proofs.Ytaifihoheieneaa.Mem Go.Proofs.Ytaifihoheieneaa.Octet Go.Proofs.Ytaifihoheieneaa.Prm
set_option linter.unusedVariables false
set_option linter.unusedSimpArgs false
set_option maxHeartbeats 2000000 in
set_option maxRecDepth 100000 in
theorem rknown_calls (k : Int) (w : World) (h : 0 ≤ k ∧ k < 256) : Calls Try.prog 17 #[.int .i64 k] w fun e w' => e = .returned (.bool (kn k)) ∧ w' = w := by
  by_cases h14 : k = 14
  · subst h14
    rw [show kn 14 = true from rfl]
    go_enter Try.func17, Try.ntmps17
    go_wp2
    go_ret
    exact ⟨rfl, rfl⟩
  have e14 : (k == 14) = false := beq_eq_false_iff_ne.2 h14
  by_cases h64 : k = 64
  · subst h64
    rw [show kn 64 = true from rfl]
    go_enter Try.func17, Try.ntmps17
    go_wp2
    go_ret
    exact ⟨rfl, rfl⟩
  have e64 : (k == 64) = false := beq_eq_false_iff_ne.2 h64
  by_cases h130 : k = 130
  · subst h130
    rw [show kn 130 = true from rfl]
    go_enter Try.func17, Try.ntmps17
    go_wp2
    go_ret
    exact ⟨rfl, rfl⟩
  have e130 : (k == 130) = false := beq_eq_false_iff_ne.2 h130
  by_cases h192 : k = 192
  · subst h192
    rw [show kn 192 = true from rfl]
    go_enter Try.func17, Try.ntmps17
    go_wp2
    go_ret
    exact ⟨rfl, rfl⟩
  have e192 : (k == 192) = false := beq_eq_false_iff_ne.2 h192
  by_cases h194 : k = 194
  · subst h194
    rw [show kn 194 = true from rfl]
    go_enter Try.func17, Try.ntmps17
    go_wp2
    go_ret
    exact ⟨rfl, rfl⟩
  have e194 : (k == 194) = false := beq_eq_false_iff_ne.2 h194
  by_cases hl : k ≤ 11
  · have hf : kn k = true := by
      have : k = 0 ∨ k = 1 ∨ k = 2 ∨ k = 3 ∨ k = 4 ∨ k = 5 ∨ k = 6 ∨ k = 7 ∨ k = 8 ∨ k = 9 ∨ k = 10 ∨ k = 11 := by omega
      rcases this with rfl | rfl | rfl | rfl | rfl | rfl | rfl | rfl | rfl | rfl | rfl | rfl <;> rfl
    rw [hf]
    have g1 : decide ((0 : Int) ≤ k) = true := decide_eq_true h.1
    have g2 : decide (k ≤ (11 : Int)) = true := decide_eq_true hl
    clear hf h14 h64 h130 h192 h194 hl h
    go_enter Try.func17, Try.ntmps17
    go_wp2
    go_ret
    exact ⟨rfl, rfl⟩
  · have hf : kn k = false := by
      have n0 : ∀ n : Int, n ≤ 11 → (k == n) = false := fun n hn => beq_eq_false_iff_ne.2 (by omega)
      simp only [kn, List.contains, List.elem, n0 0 (by decide), n0 1 (by decide), n0 2 (by decide), n0 3 (by decide), n0 4 (by decide), n0 5 (by decide), n0 6 (by decide), n0 7 (by decide), n0 8 (by decide), n0 9 (by decide), n0 10 (by decide), n0 11 (by decide), e14, e64, e130, e192, e194]
    rw [hf]
    have g1 : decide ((0 : Int) ≤ k) = true := decide_eq_true h.1
    have g2 : decide (k ≤ (11 : Int)) = false := decide_eq_false hl
    clear hf h14 h64 h130 h192 h194 hl h
    go_enter Try.func17, Try.ntmps17
    go_wp2
    go_ret
    exact ⟨rfl, rfl⟩
theorem txt_b16 (v : Int) : txt v 2 = b16 v := by simp [txt, List.range_succ, b16]
theorem txt_b32 (v : Int) : txt v 4 = b32 v := by simp [txt, List.range_succ, b32]
set_option maxHeartbeats 2000000 in
set_option maxRecDepth 100000 in
theorem rq_calls (v : Value) (zs : List Int) (x : Int) (n : Nat) (w : World) (h : OwnB w 0 5 v zs) (h0 : 0 ≤ x) (h1 : x < 4294967296) (hn : n ≤ 4) (hl : zs.length + 4 ≤ 140737488355328) :
    Calls Try.prog 31 #[v, .int .u64 x, .int .i64 n] w fun e w' => ∃ A k cap, e = .returned (.slice A k cap) ∧ k = (zs ++ txt x n).length ∧ AppP w v (zs ++ txt x n) (.slice A k cap) w' := by
  obtain ⟨i0, hi0, hz0, hz1, hz2⟩ := info_parts info_b
  obtain ⟨A, c, rfl, -, -⟩ := OwnB.slice h
  have CT := Lib.hid (rtext_calls x n w h0 h1 hn)
  have hln : zs.length + (txt x n).length ≤ 140737488355328 := by rw [txt_len]; omega
  have htl := txt_len x n
  have HH := Lib.hid h
  have HTL := Lib.hid htl
  clear h htl
  go_enter Try.func31, Try.ntmps31
  go_wp2_with fail
  refine CT.out.mono ?_
  rintro e w1 ⟨A1, k1, c1, rfl, hk1, o1, B1⟩
  have hk1' : k1 = (txt x n).length := by rw [HTL.out]; exact hk1
  clear hk1
  have o2 := OwnB.fr HH.out (Fr.of_below (S := nothing) B1) (fun _ _ h => h)
  obtain ⟨A2, c2, e2, -, -, -, rd⟩ := SlB.of_own o1
  injection e2 with e21 e22 e23
  subst e21; subst e23
  have K1 := Lib.hid hk1'
  have FB := Lib.hid B1
  clear e22 hk1' o1 CT B1
  go_wp2_with (at_builtin; refine wpList_append_b _ rfl (.tmp 7) (.tmp 10) _ rfl 0 5 i0 Try.underlying29 hi0 hz0 hz1 hz2 (.slice A zs.length c) zs rfl o2 _ _ _ _ _ (txt x n) rfl K1.out rd hln (Nat.zero_le _) ?_; intro v' w' hown hg hat; have hB : AppP w1 (.slice A zs.length c) (zs ++ txt x n) v' w' := AppP.of_grown hown hg hat; obtain ⟨A', cap', ev⟩ := hB.shape; subst ev; clear hown hg hat)
  go_ret
  refine ⟨A', (zs ++ txt x n).length, cap', by simp, rfl, ?_⟩
  exact (AppP.trans ⟨OwnB.fr HH.out (Fr.of_below (S := nothing) FB.out) (fun _ _ h => h), .inl rfl, Fr.of_below FB.out⟩ hB)
/-- A row that grows in new memory, from b on. -/
structure NewP (b : Nat) (w0 : World) (v : Value) (zs : List Int) (w : World) : Prop where
  own : OwnB w b 5 v zs
  bel : Below b w0 w
  hb : b ≤ w0.heap.size
section
variable {b : Nat} {w0 w w' : World} {v v' : Value} {zs zs' : List Int}
theorem NewP.nil (b : Nat) (w0 : World) (hb : b ≤ w0.heap.size) : NewP b w0 (.slice none 0 0) [] w0 := ⟨OwnB.nil _ _ _, Below.refl _ _, hb⟩
theorem NewP.app (h : NewP b w0 v zs w) (k : AppP w v zs' v' w') : NewP b w0 v' zs' w' := by
  have hs := h.bel.size
  have hb := h.hb
  refine ⟨OwnB.rise k.1 (fun j hj => ?_), Bl.trans h.bel (Bl.of_fr k.2.2 (by omega) (fun j hj => OwnB.ge h.own j hj)), hb⟩
  rcases k.2.1 with e | ⟨b', e, h1, _⟩
  · rw [e] at hj; exact OwnB.ge h.own j hj
  · rw [e] at hj; injection hj with hj; omega
theorem NewP.bl (h : NewP b w0 v zs w) (f : Below w.heap.size w w') : NewP b w0 v zs w' := by
  have hs := h.bel.size
  have hb := h.hb
  exact ⟨OwnB.fr h.own (S := nothing) (Fr.of_below f) (fun _ _ h => h), Bl.trans h.bel (Bl.low f (by omega)), hb⟩
theorem NewP.shape (h : NewP b w0 v zs w) : ∃ A k cap, v = .slice A k cap ∧ k = zs.length := by
  obtain ⟨A, cap, e, _⟩ := OwnB.slice h.own; exact ⟨A, _, cap, e, rfl⟩
theorem NewP.zero (h : NewP b w0 v zs w) : OwnB w 0 5 v zs := OwnB.low h.own (Nat.zero_le _)
theorem NewP.cell (h : NewP b w0 v zs w) {g i : Nat} {t : TypeId} {cs : Array Value} (hB : Blk w0 g t cs) (hg : g < b) : w.cell? ⟨g, i, none⟩ = cs[i]? := (hB.fr (Bl.fr h.bel) (fun h => by omega)).cell i
end
end Go.Proofs.Ytaifihoheieneaa.Chk
namespace Go.Proofs.Ytaifihoheieneaa.Chk
open Go.RowKit Go.Proofs.Ytaifihoheieneaa.Mem Go.Proofs.Ytaifihoheieneaa.Octet Go.Proofs.Ytaifihoheieneaa.Prm
set_option linter.unusedVariables false
set_option linter.unusedSimpArgs false
theorem u64w {x : Int} (h : 0 ≤ x ∧ x < 4294967296) : IntKind.u64.wrap x = x := by simp [IntKind.wrap, IntKind.bits, IntKind.signed]; omega
theorem r16 {x : Int} (h : 0 ≤ x ∧ x < 65536) : 0 ≤ x ∧ x < 4294967296 := by omega
set_option maxHeartbeats 4000000 in
set_option maxRecDepth 100000 in
theorem rput_7 (lo hi : Nat) (cs : Array Value) (c : Ck) (w : World) (hC : CkV w lo hi cs c) (hhi : hi ≤ w.heap.size) (hBd : CkB c) (hL : CkL c) (hk : c.k = 7) :
    Calls Try.prog 14 #[.agg cs] w (PutC w c) := by
  have hsz := hC.size
  have hbw : w.heap.size < (w.alloc (.cells cs 31)).heap.size := by simp
  have B0 : Below w.heap.size w (w.alloc (.cells cs 31)) := (Below.refl _ w).alloc (Nat.le_refl _) _
  have bC := Blk.new w cs 31
  have hC1 := hC.fr (S := nothing) ((Fr.refl _ w).alloc (.cells cs 31)) (fun _ _ _ h => h)
  have c0 := hC.c0
  rw [hk] at c0
  have hlen := bB_len hL
  have HK := Lib.hid hk
  have HHI := Lib.hid hhi
  have kk : kn c.k = true := by rw [hk]; rfl
  have HKN := Lib.hid kk
  obtain ⟨ib, hib, hbz0, hbz1, hbz2⟩ := info_parts info_b
  clear hk kk hhi
  have HE := Lib.hid (show bE c = 0 by simp [bE, HK.out])
  have HF := Lib.hid (show fl c = 0 by simp [fl, HK.out])
  have HBB := Lib.hid (show [] ++ b32 c.tsn = bB c by simp [bB, HK.out])
  have cc := (bC.cell 0).trans c0
  go_enter Try.func14, Try.ntmps14
  go_wp2_with fail
  refine (rknown_calls _ _ (by decide)).mono ?_
  rintro e wk ⟨rfl, hwk⟩
  rw [hwk]
  clear hwk cc
  generalize w.alloc (.cells cs 31) = w1 at *
  have H := NewP.nil w1.heap.size w1 (Nat.le_refl _)
  obtain ⟨kv, hkv⟩ : ∃ kv : Nat, kv = ([] : List Int).length := ⟨_, rfl⟩
  have HKV := Lib.hid hkv
  clear hkv
  have cc := (H.cell bC hbw (i := 5)).trans hC.c5
  have ww := u64w hBd.tsn
  go_wp2_with fail
  -- c.tsn the number; 4 how many bytes; hBd.tsn its bounds; txt_b32: txt's name
  refine (rq_calls _ _ (c.tsn) 4 _ H.zero (hBd.tsn).1 (hBd.tsn).2 (by decide) (by simp [b16_len, b32_len]; try omega)).mono ?_
  rintro e wp ⟨Ap, kp, pp, rfl, hkp, HP⟩
  rw [txt_b32] at hkp HP
  have H' := H.app HP
  have HKV' := Lib.hid hkp
  clear H HKV HP hkp
  have H := H'
  have HKV := HKV'
  clear H' HKV'
  clear cc ww
  -- H's bytes are the body's; the flags' value is 0 (HF: fl c = it), the kind 7
  rw [HBB.out] at H HKV
  have HKL := HKV.out
  obtain ⟨bs, hbs⟩ : ∃ bs, bB c = bs := ⟨_, rfl⟩
  have HBS := Lib.hid hbs
  rw [hbs] at H HKL hlen
  have hkb : kp ≤ 10000000000 := by omega
  have hwk : IntKind.i64.wrap ((kp : Int) + 4) = (kp : Int) + 4 := IntWalk.i64_in _ (by omega)
  have HKB := Lib.hid HKL
  have hs0 := H.bel.size
  have B5 := Bl.trans B0 (Bl.low H.bel (Nat.le_of_lt hbw))
  by_cases hl : 65535 < bs.length + 4
  · have he := cE_long HKN.out HE.out (by rw [HBS.out]; exact hl)
    have HE2 := Lib.hid he
    have hl2 : decide ((65535 : Int) < (kp : Int) + 4) = true := decide_eq_true (by omega)
    clear he hl HKL hbs HKV hkb
    go_wp2
    go_ret2
    unfold PutC
    rw [cO_bad (by rw [HE2.out]; decide), HE2.out]
    exact ⟨B5, none, 0, rfl, OwnB.nil _ _ _⟩
  · have he := cE_ok HKN.out HE.out (by rw [HBS.out]; exact hl)
    have HE2 := Lib.hid he
    have hl2 : decide ((65535 : Int) < (kp : Int) + 4) = false := decide_eq_false (by omega)
    have hb4 : 0 ≤ (kp : Int) + 4 ∧ (kp : Int) + 4 < 4294967296 := by omega
    have ww := u64w hb4
    have hlb : bs.length + 4 ≤ 65535 := by omega
    clear he hl HKL hbs HKV hkb hlen
    -- flags 0, kind 7, the length (kp : Int) + 4, the world wp
    go_upto_region 75 with fail
    have own2 : OwnB (wp.alloc (.cells #[.int .u8 7, .int .u8 0] 5)) wp.heap.size 5 (.slice (some ⟨wp.heap.size, 0, none⟩) 2 2) [7, 0] := ⟨rfl, .inr ⟨wp.heap.size, 2, #[.int .u8 7, .int .u8 0], rfl, Nat.le_refl _, heap_alloc_new wp _, Nat.le_refl _, (by decide), rfl, rfl⟩⟩
    have hb2 : wp.heap.size ≤ (wp.alloc (.cells #[.int .u8 7, .int .u8 0] 5)).heap.size := by simp
    have H2 : NewP wp.heap.size (wp.alloc (.cells #[.int .u8 7, .int .u8 0] 5)) (.slice (some ⟨wp.heap.size, 0, none⟩) 2 2) [7, 0] (wp.alloc (.cells #[.int .u8 7, .int .u8 0] 5)) := ⟨own2, Below.refl _ _, hb2⟩
    have HB2 : Below wp.heap.size wp (wp.alloc (.cells #[.int .u8 7, .int .u8 0] 5)) := (Below.refl _ wp).alloc (Nat.le_refl _) _
    generalize wp.alloc (.cells #[.int .u8 7, .int .u8 0] 5) = wout at *
    clear own2 hb2
    go_wp2_with fail
    refine (rq_calls _ _ ((kp : Int) + 4) 2 _ H2.zero hb4.1 hb4.2 (by decide) (by simp)).mono ?_
    rintro e ws ⟨As, ks, ps, rfl, hks, HS⟩
    rw [txt_b16] at hks HS
    have H3 := H2.app HS
    have HKS := Lib.hid hks
    have HBWR := Lib.hid HB2
    have HB3 := Bl.trans HB2 H3.bel
    have o3 := OwnB.fr H.own (Bl.fr HB3) (fun k h1 h2 => by have := OwnB.lt H.own k h1; omega)
    obtain ⟨A6, c6, e6, -, -, -, rd⟩ := SlB.of_own o3
    injection e6 with e61 e62 e63
    subst e61; subst e63
    have hln : ([7, 0] ++ b16 ((kp : Int) + 4)).length + bs.length ≤ 140737488355328 := by simp [b16_len]; omega
    clear H2 HS HB2 HB3 hks e62 o3 hl2 ww hwk
    have HN3 := Lib.hid H3
    go_wp2_with (at_builtin; refine wpList_append_b _ rfl (.tmp 309) (.tmp 310) _ rfl wp.heap.size 5 ib Try.underlying29 hib hbz0 hbz1 hbz2 _ ([7, 0] ++ b16 ((kp : Int) + 4)) rfl H3.own _ _ _ _ _ bs rfl HKB.out rd hln (Nat.le_trans H3.hb H3.bel.size) ?_; intro v7 w7 hown hg hat; have o7 : OwnB w7 wp.heap.size 5 v7 ([7, 0] ++ b16 ((kp : Int) + 4) ++ bs) := hown; have HB7 := Lib.hid (Bl.trans HN3.out.bel (Bl.of_fr ((Fr.refl _ ws).grown (S := fun k => wp.heap.size ≤ k) hg (fun k hk => .inl (OwnB.ge HN3.out.own k hk))) (Nat.le_trans HN3.out.hb HN3.out.bel.size) (fun k hk => hk))); obtain ⟨A7, n7, c7, rfl, hn7⟩ : ∃ A n c, v7 = .slice A n c ∧ n = (([7, 0] : List Int) ++ b16 ((kp : Int) + 4) ++ bs).length := (by obtain ⟨A, c, e, -⟩ := OwnB.slice o7; exact ⟨A, _, c, e, rfl⟩); clear hn7; clear hown hg hat rd H3)
    have CPD := rpad_calls _ _ 4 w7 (OwnB.low o7 (Nat.zero_le _)) (by simp [b16_len]; omega) (by decide)
    have hl7 : (([7, 0] : List Int) ++ b16 ((kp : Int) + 4) ++ bs).length = 4 + bs.length := by simp [b16_len]; omega
    rw [hl7] at CPD
    refine CPD.mono ?_
    rintro e w8 ⟨A8, k8, c8, rfl, hk8, HP8⟩
    have HZ : [7, 0] ++ b16 ((kp : Int) + 4) ++ bs ++ List.replicate (padTo (4 + bs.length) 4) 0 = cB c := by
      unfold cB
      rw [HK.out, HF.out, HBS.out, show (((bs.length + 4 : Nat) : Int)) = (kp : Int) + 4 by have h9 := HKB.out; omega, show padTo (4 + bs.length) 4 = (4 - (bs.length + 4) % 4) % 4 by unfold padTo; rw [if_neg (by decide)]; show (4 - (4 + bs.length) % 4) % 4 = _; rw [Nat.add_comm]]
    rw [HZ] at HP8 hk8
    have N8 : NewP wp.heap.size wout (.slice A8 k8 c8) (cB c) w8 := NewP.app ⟨o7, HB7.out, HN3.out.hb⟩ HP8
    have BF2 : Below w.heap.size w w8 := Bl.trans B5 (Bl.low (Bl.trans HBWR.out N8.bel) B5.size)
    have HK8 := Lib.hid hk8
    clear HP8 hk8 HZ CPD o7
    go_wp2
    go_ret2
    unfold PutC
    rw [cO_ok HE2.out, HE2.out]
    have hk8' := HK8.out
    subst hk8'
    exact ⟨BF2, A8, c8, rfl, OwnB.low N8.own B5.size⟩
set_option maxHeartbeats 4000000 in
set_option maxRecDepth 100000 in
theorem rput_4 (lo hi : Nat) (cs : Array Value) (c : Ck) (w : World) (hC : CkV w lo hi cs c) (hhi : hi ≤ w.heap.size) (hBd : CkB c) (hL : CkL c) (hk : c.k = 4) :
    Calls Try.prog 14 #[.agg cs] w (PutC w c) := by
  have hsz := hC.size
  have hbw : w.heap.size < (w.alloc (.cells cs 31)).heap.size := by simp
  have B0 : Below w.heap.size w (w.alloc (.cells cs 31)) := (Below.refl _ w).alloc (Nat.le_refl _) _
  have bC := Blk.new w cs 31
  have hC1 := hC.fr (S := nothing) ((Fr.refl _ w).alloc (.cells cs 31)) (fun _ _ _ h => h)
  have c0 := hC.c0
  rw [hk] at c0
  have hlen := bB_len hL
  have HK := Lib.hid hk
  have HHI := Lib.hid hhi
  have kk : kn c.k = true := by rw [hk]; rfl
  have HKN := Lib.hid kk
  obtain ⟨ib, hib, hbz0, hbz1, hbz2⟩ := info_parts info_b
  clear hk kk hhi
  have HE := Lib.hid (show bE c = 0 by simp [bE, HK.out])
  have HF := Lib.hid (show fl c = 0 by simp [fl, HK.out])
  have HBB := Lib.hid (show [] ++ c.body = bB c by simp [bB, HK.out])
  have cc := (bC.cell 0).trans c0
  go_enter Try.func14, Try.ntmps14
  go_wp2_with fail
  refine (rknown_calls _ _ (by decide)).mono ?_
  rintro e wk ⟨rfl, hwk⟩
  rw [hwk]
  clear hwk cc
  generalize w.alloc (.cells cs 31) = w1 at *
  have H := NewP.nil w1.heap.size w1 (Nat.le_refl _)
  obtain ⟨kv, hkv⟩ : ∃ kv : Nat, kv = ([] : List Int).length := ⟨_, rfl⟩
  have HKV := Lib.hid hkv
  clear hkv
  -- the body behind the bytes ([] : List Int)
  have hCw := hC1.bl H.bel (Nat.le_trans HHI.out (Nat.le_of_lt hbw))
  obtain ⟨A18, p18, e18, h18⟩ := hCw.c18
  have cc := (H.cell bC hbw (i := 18)).trans e18
  obtain ⟨A18', c18', e18', -, -, -, rd18⟩ := h18
  injection e18' with e181 e182 e183
  subst e181; subst e183
  have hlb := hL.body
  have hlnb : (([] : List Int)).length + c.body.length ≤ 140737488355328 := by simp [b16_len, b32_len]; omega
  have HNH := Lib.hid H
  clear hCw e182
  go_upto_region 72 with (at_builtin; refine wpList_append_b _ rfl (.tmp 291) (.tmp 293) _ rfl w1.heap.size 5 ib Try.underlying29 hib hbz0 hbz1 hbz2 _ (([] : List Int)) rfl H.own _ _ _ _ _ c.body rfl rfl rd18 hlnb (Nat.le_trans H.hb H.bel.size) ?_; intro v3 wp hown hg hat; have H3 : NewP w1.heap.size w1 v3 (([] : List Int) ++ c.body) wp := ⟨hown, Bl.trans HNH.out.bel (Bl.of_fr ((Fr.refl _ _).grown (S := fun k => w1.heap.size ≤ k) hg (fun k hk => .inl (OwnB.ge HNH.out.own k hk))) (Nat.le_trans HNH.out.hb HNH.out.bel.size) (fun k hk => hk)), HNH.out.hb⟩; obtain ⟨Ap, kp, pp, rfl, hkp⟩ := H3.shape; have HKV2 := Lib.hid hkp; clear hkp hown hg hat rd18 H cc)
  clear HKV
  have HKV := HKV2
  have H := H3
  clear H3 HKV2 hlnb hlb HNH
  -- H's bytes are the body's; the flags' value is 0 (HF: fl c = it), the kind 4
  rw [HBB.out] at H HKV
  have HKL := HKV.out
  obtain ⟨bs, hbs⟩ : ∃ bs, bB c = bs := ⟨_, rfl⟩
  have HBS := Lib.hid hbs
  rw [hbs] at H HKL hlen
  have hkb : kp ≤ 10000000000 := by omega
  have hwk : IntKind.i64.wrap ((kp : Int) + 4) = (kp : Int) + 4 := IntWalk.i64_in _ (by omega)
  have HKB := Lib.hid HKL
  have hs0 := H.bel.size
  have B5 := Bl.trans B0 (Bl.low H.bel (Nat.le_of_lt hbw))
  by_cases hl : 65535 < bs.length + 4
  · have he := cE_long HKN.out HE.out (by rw [HBS.out]; exact hl)
    have HE2 := Lib.hid he
    have hl2 : decide ((65535 : Int) < (kp : Int) + 4) = true := decide_eq_true (by omega)
    clear he hl HKL hbs HKV hkb
    go_wp2
    go_ret2
    unfold PutC
    rw [cO_bad (by rw [HE2.out]; decide), HE2.out]
    exact ⟨B5, none, 0, rfl, OwnB.nil _ _ _⟩
  · have he := cE_ok HKN.out HE.out (by rw [HBS.out]; exact hl)
    have HE2 := Lib.hid he
    have hl2 : decide ((65535 : Int) < (kp : Int) + 4) = false := decide_eq_false (by omega)
    have hb4 : 0 ≤ (kp : Int) + 4 ∧ (kp : Int) + 4 < 4294967296 := by omega
    have ww := u64w hb4
    have hlb : bs.length + 4 ≤ 65535 := by omega
    clear he hl HKL hbs HKV hkb hlen
    -- flags 0, kind 4, the length (kp : Int) + 4, the world wp
    go_upto_region 75 with fail
    have own2 : OwnB (wp.alloc (.cells #[.int .u8 4, .int .u8 0] 5)) wp.heap.size 5 (.slice (some ⟨wp.heap.size, 0, none⟩) 2 2) [4, 0] := ⟨rfl, .inr ⟨wp.heap.size, 2, #[.int .u8 4, .int .u8 0], rfl, Nat.le_refl _, heap_alloc_new wp _, Nat.le_refl _, (by decide), rfl, rfl⟩⟩
    have hb2 : wp.heap.size ≤ (wp.alloc (.cells #[.int .u8 4, .int .u8 0] 5)).heap.size := by simp
    have H2 : NewP wp.heap.size (wp.alloc (.cells #[.int .u8 4, .int .u8 0] 5)) (.slice (some ⟨wp.heap.size, 0, none⟩) 2 2) [4, 0] (wp.alloc (.cells #[.int .u8 4, .int .u8 0] 5)) := ⟨own2, Below.refl _ _, hb2⟩
    have HB2 : Below wp.heap.size wp (wp.alloc (.cells #[.int .u8 4, .int .u8 0] 5)) := (Below.refl _ wp).alloc (Nat.le_refl _) _
    generalize wp.alloc (.cells #[.int .u8 4, .int .u8 0] 5) = wout at *
    clear own2 hb2
    go_wp2_with fail
    refine (rq_calls _ _ ((kp : Int) + 4) 2 _ H2.zero hb4.1 hb4.2 (by decide) (by simp)).mono ?_
    rintro e ws ⟨As, ks, ps, rfl, hks, HS⟩
    rw [txt_b16] at hks HS
    have H3 := H2.app HS
    have HKS := Lib.hid hks
    have HBWR := Lib.hid HB2
    have HB3 := Bl.trans HB2 H3.bel
    have o3 := OwnB.fr H.own (Bl.fr HB3) (fun k h1 h2 => by have := OwnB.lt H.own k h1; omega)
    obtain ⟨A6, c6, e6, -, -, -, rd⟩ := SlB.of_own o3
    injection e6 with e61 e62 e63
    subst e61; subst e63
    have hln : ([4, 0] ++ b16 ((kp : Int) + 4)).length + bs.length ≤ 140737488355328 := by simp [b16_len]; omega
    clear H2 HS HB2 HB3 hks e62 o3 hl2 ww hwk
    have HN3 := Lib.hid H3
    go_wp2_with (at_builtin; refine wpList_append_b _ rfl (.tmp 309) (.tmp 310) _ rfl wp.heap.size 5 ib Try.underlying29 hib hbz0 hbz1 hbz2 _ ([4, 0] ++ b16 ((kp : Int) + 4)) rfl H3.own _ _ _ _ _ bs rfl HKB.out rd hln (Nat.le_trans H3.hb H3.bel.size) ?_; intro v7 w7 hown hg hat; have o7 : OwnB w7 wp.heap.size 5 v7 ([4, 0] ++ b16 ((kp : Int) + 4) ++ bs) := hown; have HB7 := Lib.hid (Bl.trans HN3.out.bel (Bl.of_fr ((Fr.refl _ ws).grown (S := fun k => wp.heap.size ≤ k) hg (fun k hk => .inl (OwnB.ge HN3.out.own k hk))) (Nat.le_trans HN3.out.hb HN3.out.bel.size) (fun k hk => hk))); obtain ⟨A7, n7, c7, rfl, hn7⟩ : ∃ A n c, v7 = .slice A n c ∧ n = (([4, 0] : List Int) ++ b16 ((kp : Int) + 4) ++ bs).length := (by obtain ⟨A, c, e, -⟩ := OwnB.slice o7; exact ⟨A, _, c, e, rfl⟩); clear hn7; clear hown hg hat rd H3)
    have CPD := rpad_calls _ _ 4 w7 (OwnB.low o7 (Nat.zero_le _)) (by simp [b16_len]; omega) (by decide)
    have hl7 : (([4, 0] : List Int) ++ b16 ((kp : Int) + 4) ++ bs).length = 4 + bs.length := by simp [b16_len]; omega
    rw [hl7] at CPD
    refine CPD.mono ?_
    rintro e w8 ⟨A8, k8, c8, rfl, hk8, HP8⟩
    have HZ : [4, 0] ++ b16 ((kp : Int) + 4) ++ bs ++ List.replicate (padTo (4 + bs.length) 4) 0 = cB c := by
      unfold cB
      rw [HK.out, HF.out, HBS.out, show (((bs.length + 4 : Nat) : Int)) = (kp : Int) + 4 by have h9 := HKB.out; omega, show padTo (4 + bs.length) 4 = (4 - (bs.length + 4) % 4) % 4 by unfold padTo; rw [if_neg (by decide)]; show (4 - (4 + bs.length) % 4) % 4 = _; rw [Nat.add_comm]]
    rw [HZ] at HP8 hk8
    have N8 : NewP wp.heap.size wout (.slice A8 k8 c8) (cB c) w8 := NewP.app ⟨o7, HB7.out, HN3.out.hb⟩ HP8
    have BF2 : Below w.heap.size w w8 := Bl.trans B5 (Bl.low (Bl.trans HBWR.out N8.bel) B5.size)
    have HK8 := Lib.hid hk8
    clear HP8 hk8 HZ CPD o7
    go_wp2
    go_ret2
    unfold PutC
    rw [cO_ok HE2.out, HE2.out]
    have hk8' := HK8.out
    subst hk8'
    exact ⟨BF2, A8, c8, rfl, OwnB.low N8.own B5.size⟩
set_option maxHeartbeats 4000000 in
set_option maxRecDepth 100000 in
theorem rput_5 (lo hi : Nat) (cs : Array Value) (c : Ck) (w : World) (hC : CkV w lo hi cs c) (hhi : hi ≤ w.heap.size) (hBd : CkB c) (hL : CkL c) (hk : c.k = 5) :
    Calls Try.prog 14 #[.agg cs] w (PutC w c) := by
  have hsz := hC.size
  have hbw : w.heap.size < (w.alloc (.cells cs 31)).heap.size := by simp
  have B0 : Below w.heap.size w (w.alloc (.cells cs 31)) := (Below.refl _ w).alloc (Nat.le_refl _) _
  have bC := Blk.new w cs 31
  have hC1 := hC.fr (S := nothing) ((Fr.refl _ w).alloc (.cells cs 31)) (fun _ _ _ h => h)
  have c0 := hC.c0
  rw [hk] at c0
  have hlen := bB_len hL
  have HK := Lib.hid hk
  have HHI := Lib.hid hhi
  have kk : kn c.k = true := by rw [hk]; rfl
  have HKN := Lib.hid kk
  obtain ⟨ib, hib, hbz0, hbz1, hbz2⟩ := info_parts info_b
  clear hk kk hhi
  have HE := Lib.hid (show bE c = 0 by simp [bE, HK.out])
  have HF := Lib.hid (show fl c = 0 by simp [fl, HK.out])
  have HBB := Lib.hid (show [] ++ c.body = bB c by simp [bB, HK.out])
  have cc := (bC.cell 0).trans c0
  go_enter Try.func14, Try.ntmps14
  go_wp2_with fail
  refine (rknown_calls _ _ (by decide)).mono ?_
  rintro e wk ⟨rfl, hwk⟩
  rw [hwk]
  clear hwk cc
  generalize w.alloc (.cells cs 31) = w1 at *
  have H := NewP.nil w1.heap.size w1 (Nat.le_refl _)
  obtain ⟨kv, hkv⟩ : ∃ kv : Nat, kv = ([] : List Int).length := ⟨_, rfl⟩
  have HKV := Lib.hid hkv
  clear hkv
  -- the body behind the bytes ([] : List Int)
  have hCw := hC1.bl H.bel (Nat.le_trans HHI.out (Nat.le_of_lt hbw))
  obtain ⟨A18, p18, e18, h18⟩ := hCw.c18
  have cc := (H.cell bC hbw (i := 18)).trans e18
  obtain ⟨A18', c18', e18', -, -, -, rd18⟩ := h18
  injection e18' with e181 e182 e183
  subst e181; subst e183
  have hlb := hL.body
  have hlnb : (([] : List Int)).length + c.body.length ≤ 140737488355328 := by simp [b16_len, b32_len]; omega
  have HNH := Lib.hid H
  clear hCw e182
  go_upto_region 72 with (at_builtin; refine wpList_append_b _ rfl (.tmp 291) (.tmp 293) _ rfl w1.heap.size 5 ib Try.underlying29 hib hbz0 hbz1 hbz2 _ (([] : List Int)) rfl H.own _ _ _ _ _ c.body rfl rfl rd18 hlnb (Nat.le_trans H.hb H.bel.size) ?_; intro v3 wp hown hg hat; have H3 : NewP w1.heap.size w1 v3 (([] : List Int) ++ c.body) wp := ⟨hown, Bl.trans HNH.out.bel (Bl.of_fr ((Fr.refl _ _).grown (S := fun k => w1.heap.size ≤ k) hg (fun k hk => .inl (OwnB.ge HNH.out.own k hk))) (Nat.le_trans HNH.out.hb HNH.out.bel.size) (fun k hk => hk)), HNH.out.hb⟩; obtain ⟨Ap, kp, pp, rfl, hkp⟩ := H3.shape; have HKV2 := Lib.hid hkp; clear hkp hown hg hat rd18 H cc)
  clear HKV
  have HKV := HKV2
  have H := H3
  clear H3 HKV2 hlnb hlb HNH
  -- H's bytes are the body's; the flags' value is 0 (HF: fl c = it), the kind 5
  rw [HBB.out] at H HKV
  have HKL := HKV.out
  obtain ⟨bs, hbs⟩ : ∃ bs, bB c = bs := ⟨_, rfl⟩
  have HBS := Lib.hid hbs
  rw [hbs] at H HKL hlen
  have hkb : kp ≤ 10000000000 := by omega
  have hwk : IntKind.i64.wrap ((kp : Int) + 4) = (kp : Int) + 4 := IntWalk.i64_in _ (by omega)
  have HKB := Lib.hid HKL
  have hs0 := H.bel.size
  have B5 := Bl.trans B0 (Bl.low H.bel (Nat.le_of_lt hbw))
  by_cases hl : 65535 < bs.length + 4
  · have he := cE_long HKN.out HE.out (by rw [HBS.out]; exact hl)
    have HE2 := Lib.hid he
    have hl2 : decide ((65535 : Int) < (kp : Int) + 4) = true := decide_eq_true (by omega)
    clear he hl HKL hbs HKV hkb
    go_wp2
    go_ret2
    unfold PutC
    rw [cO_bad (by rw [HE2.out]; decide), HE2.out]
    exact ⟨B5, none, 0, rfl, OwnB.nil _ _ _⟩
  · have he := cE_ok HKN.out HE.out (by rw [HBS.out]; exact hl)
    have HE2 := Lib.hid he
    have hl2 : decide ((65535 : Int) < (kp : Int) + 4) = false := decide_eq_false (by omega)
    have hb4 : 0 ≤ (kp : Int) + 4 ∧ (kp : Int) + 4 < 4294967296 := by omega
    have ww := u64w hb4
    have hlb : bs.length + 4 ≤ 65535 := by omega
    clear he hl HKL hbs HKV hkb hlen
    -- flags 0, kind 5, the length (kp : Int) + 4, the world wp
    go_upto_region 75 with fail
    have own2 : OwnB (wp.alloc (.cells #[.int .u8 5, .int .u8 0] 5)) wp.heap.size 5 (.slice (some ⟨wp.heap.size, 0, none⟩) 2 2) [5, 0] := ⟨rfl, .inr ⟨wp.heap.size, 2, #[.int .u8 5, .int .u8 0], rfl, Nat.le_refl _, heap_alloc_new wp _, Nat.le_refl _, (by decide), rfl, rfl⟩⟩
    have hb2 : wp.heap.size ≤ (wp.alloc (.cells #[.int .u8 5, .int .u8 0] 5)).heap.size := by simp
    have H2 : NewP wp.heap.size (wp.alloc (.cells #[.int .u8 5, .int .u8 0] 5)) (.slice (some ⟨wp.heap.size, 0, none⟩) 2 2) [5, 0] (wp.alloc (.cells #[.int .u8 5, .int .u8 0] 5)) := ⟨own2, Below.refl _ _, hb2⟩
    have HB2 : Below wp.heap.size wp (wp.alloc (.cells #[.int .u8 5, .int .u8 0] 5)) := (Below.refl _ wp).alloc (Nat.le_refl _) _
    generalize wp.alloc (.cells #[.int .u8 5, .int .u8 0] 5) = wout at *
    clear own2 hb2
    go_wp2_with fail
    refine (rq_calls _ _ ((kp : Int) + 4) 2 _ H2.zero hb4.1 hb4.2 (by decide) (by simp)).mono ?_
    rintro e ws ⟨As, ks, ps, rfl, hks, HS⟩
    rw [txt_b16] at hks HS
    have H3 := H2.app HS
    have HKS := Lib.hid hks
    have HBWR := Lib.hid HB2
    have HB3 := Bl.trans HB2 H3.bel
    have o3 := OwnB.fr H.own (Bl.fr HB3) (fun k h1 h2 => by have := OwnB.lt H.own k h1; omega)
    obtain ⟨A6, c6, e6, -, -, -, rd⟩ := SlB.of_own o3
    injection e6 with e61 e62 e63
    subst e61; subst e63
    have hln : ([5, 0] ++ b16 ((kp : Int) + 4)).length + bs.length ≤ 140737488355328 := by simp [b16_len]; omega
    clear H2 HS HB2 HB3 hks e62 o3 hl2 ww hwk
    have HN3 := Lib.hid H3
    go_wp2_with (at_builtin; refine wpList_append_b _ rfl (.tmp 309) (.tmp 310) _ rfl wp.heap.size 5 ib Try.underlying29 hib hbz0 hbz1 hbz2 _ ([5, 0] ++ b16 ((kp : Int) + 4)) rfl H3.own _ _ _ _ _ bs rfl HKB.out rd hln (Nat.le_trans H3.hb H3.bel.size) ?_; intro v7 w7 hown hg hat; have o7 : OwnB w7 wp.heap.size 5 v7 ([5, 0] ++ b16 ((kp : Int) + 4) ++ bs) := hown; have HB7 := Lib.hid (Bl.trans HN3.out.bel (Bl.of_fr ((Fr.refl _ ws).grown (S := fun k => wp.heap.size ≤ k) hg (fun k hk => .inl (OwnB.ge HN3.out.own k hk))) (Nat.le_trans HN3.out.hb HN3.out.bel.size) (fun k hk => hk))); obtain ⟨A7, n7, c7, rfl, hn7⟩ : ∃ A n c, v7 = .slice A n c ∧ n = (([5, 0] : List Int) ++ b16 ((kp : Int) + 4) ++ bs).length := (by obtain ⟨A, c, e, -⟩ := OwnB.slice o7; exact ⟨A, _, c, e, rfl⟩); clear hn7; clear hown hg hat rd H3)
    have CPD := rpad_calls _ _ 4 w7 (OwnB.low o7 (Nat.zero_le _)) (by simp [b16_len]; omega) (by decide)
    have hl7 : (([5, 0] : List Int) ++ b16 ((kp : Int) + 4) ++ bs).length = 4 + bs.length := by simp [b16_len]; omega
    rw [hl7] at CPD
    refine CPD.mono ?_
    rintro e w8 ⟨A8, k8, c8, rfl, hk8, HP8⟩
    have HZ : [5, 0] ++ b16 ((kp : Int) + 4) ++ bs ++ List.replicate (padTo (4 + bs.length) 4) 0 = cB c := by
      unfold cB
      rw [HK.out, HF.out, HBS.out, show (((bs.length + 4 : Nat) : Int)) = (kp : Int) + 4 by have h9 := HKB.out; omega, show padTo (4 + bs.length) 4 = (4 - (bs.length + 4) % 4) % 4 by unfold padTo; rw [if_neg (by decide)]; show (4 - (4 + bs.length) % 4) % 4 = _; rw [Nat.add_comm]]
    rw [HZ] at HP8 hk8
    have N8 : NewP wp.heap.size wout (.slice A8 k8 c8) (cB c) w8 := NewP.app ⟨o7, HB7.out, HN3.out.hb⟩ HP8
    have BF2 : Below w.heap.size w w8 := Bl.trans B5 (Bl.low (Bl.trans HBWR.out N8.bel) B5.size)
    have HK8 := Lib.hid hk8
    clear HP8 hk8 HZ CPD o7
    go_wp2
    go_ret2
    unfold PutC
    rw [cO_ok HE2.out, HE2.out]
    have hk8' := HK8.out
    subst hk8'
    exact ⟨BF2, A8, c8, rfl, OwnB.low N8.own B5.size⟩
set_option maxHeartbeats 4000000 in
set_option maxRecDepth 100000 in
theorem rput_10 (lo hi : Nat) (cs : Array Value) (c : Ck) (w : World) (hC : CkV w lo hi cs c) (hhi : hi ≤ w.heap.size) (hBd : CkB c) (hL : CkL c) (hk : c.k = 10) :
    Calls Try.prog 14 #[.agg cs] w (PutC w c) := by
  have hsz := hC.size
  have hbw : w.heap.size < (w.alloc (.cells cs 31)).heap.size := by simp
  have B0 : Below w.heap.size w (w.alloc (.cells cs 31)) := (Below.refl _ w).alloc (Nat.le_refl _) _
  have bC := Blk.new w cs 31
  have hC1 := hC.fr (S := nothing) ((Fr.refl _ w).alloc (.cells cs 31)) (fun _ _ _ h => h)
  have c0 := hC.c0
  rw [hk] at c0
  have hlen := bB_len hL
  have HK := Lib.hid hk
  have HHI := Lib.hid hhi
  have kk : kn c.k = true := by rw [hk]; rfl
  have HKN := Lib.hid kk
  obtain ⟨ib, hib, hbz0, hbz1, hbz2⟩ := info_parts info_b
  clear hk kk hhi
  have HE := Lib.hid (show bE c = 0 by simp [bE, HK.out])
  have HF := Lib.hid (show fl c = 0 by simp [fl, HK.out])
  have HBB := Lib.hid (show [] ++ c.body = bB c by simp [bB, HK.out])
  have cc := (bC.cell 0).trans c0
  go_enter Try.func14, Try.ntmps14
  go_wp2_with fail
  refine (rknown_calls _ _ (by decide)).mono ?_
  rintro e wk ⟨rfl, hwk⟩
  rw [hwk]
  clear hwk cc
  generalize w.alloc (.cells cs 31) = w1 at *
  have H := NewP.nil w1.heap.size w1 (Nat.le_refl _)
  obtain ⟨kv, hkv⟩ : ∃ kv : Nat, kv = ([] : List Int).length := ⟨_, rfl⟩
  have HKV := Lib.hid hkv
  clear hkv
  -- the body behind the bytes ([] : List Int)
  have hCw := hC1.bl H.bel (Nat.le_trans HHI.out (Nat.le_of_lt hbw))
  obtain ⟨A18, p18, e18, h18⟩ := hCw.c18
  have cc := (H.cell bC hbw (i := 18)).trans e18
  obtain ⟨A18', c18', e18', -, -, -, rd18⟩ := h18
  injection e18' with e181 e182 e183
  subst e181; subst e183
  have hlb := hL.body
  have hlnb : (([] : List Int)).length + c.body.length ≤ 140737488355328 := by simp [b16_len, b32_len]; omega
  have HNH := Lib.hid H
  clear hCw e182
  go_upto_region 72 with (at_builtin; refine wpList_append_b _ rfl (.tmp 291) (.tmp 293) _ rfl w1.heap.size 5 ib Try.underlying29 hib hbz0 hbz1 hbz2 _ (([] : List Int)) rfl H.own _ _ _ _ _ c.body rfl rfl rd18 hlnb (Nat.le_trans H.hb H.bel.size) ?_; intro v3 wp hown hg hat; have H3 : NewP w1.heap.size w1 v3 (([] : List Int) ++ c.body) wp := ⟨hown, Bl.trans HNH.out.bel (Bl.of_fr ((Fr.refl _ _).grown (S := fun k => w1.heap.size ≤ k) hg (fun k hk => .inl (OwnB.ge HNH.out.own k hk))) (Nat.le_trans HNH.out.hb HNH.out.bel.size) (fun k hk => hk)), HNH.out.hb⟩; obtain ⟨Ap, kp, pp, rfl, hkp⟩ := H3.shape; have HKV2 := Lib.hid hkp; clear hkp hown hg hat rd18 H cc)
  clear HKV
  have HKV := HKV2
  have H := H3
  clear H3 HKV2 hlnb hlb HNH
  -- H's bytes are the body's; the flags' value is 0 (HF: fl c = it), the kind 10
  rw [HBB.out] at H HKV
  have HKL := HKV.out
  obtain ⟨bs, hbs⟩ : ∃ bs, bB c = bs := ⟨_, rfl⟩
  have HBS := Lib.hid hbs
  rw [hbs] at H HKL hlen
  have hkb : kp ≤ 10000000000 := by omega
  have hwk : IntKind.i64.wrap ((kp : Int) + 4) = (kp : Int) + 4 := IntWalk.i64_in _ (by omega)
  have HKB := Lib.hid HKL
  have hs0 := H.bel.size
  have B5 := Bl.trans B0 (Bl.low H.bel (Nat.le_of_lt hbw))
  by_cases hl : 65535 < bs.length + 4
  · have he := cE_long HKN.out HE.out (by rw [HBS.out]; exact hl)
    have HE2 := Lib.hid he
    have hl2 : decide ((65535 : Int) < (kp : Int) + 4) = true := decide_eq_true (by omega)
    clear he hl HKL hbs HKV hkb
    go_wp2
    go_ret2
    unfold PutC
    rw [cO_bad (by rw [HE2.out]; decide), HE2.out]
    exact ⟨B5, none, 0, rfl, OwnB.nil _ _ _⟩
  · have he := cE_ok HKN.out HE.out (by rw [HBS.out]; exact hl)
    have HE2 := Lib.hid he
    have hl2 : decide ((65535 : Int) < (kp : Int) + 4) = false := decide_eq_false (by omega)
    have hb4 : 0 ≤ (kp : Int) + 4 ∧ (kp : Int) + 4 < 4294967296 := by omega
    have ww := u64w hb4
    have hlb : bs.length + 4 ≤ 65535 := by omega
    clear he hl HKL hbs HKV hkb hlen
    -- flags 0, kind 10, the length (kp : Int) + 4, the world wp
    go_upto_region 75 with fail
    have own2 : OwnB (wp.alloc (.cells #[.int .u8 10, .int .u8 0] 5)) wp.heap.size 5 (.slice (some ⟨wp.heap.size, 0, none⟩) 2 2) [10, 0] := ⟨rfl, .inr ⟨wp.heap.size, 2, #[.int .u8 10, .int .u8 0], rfl, Nat.le_refl _, heap_alloc_new wp _, Nat.le_refl _, (by decide), rfl, rfl⟩⟩
    have hb2 : wp.heap.size ≤ (wp.alloc (.cells #[.int .u8 10, .int .u8 0] 5)).heap.size := by simp
    have H2 : NewP wp.heap.size (wp.alloc (.cells #[.int .u8 10, .int .u8 0] 5)) (.slice (some ⟨wp.heap.size, 0, none⟩) 2 2) [10, 0] (wp.alloc (.cells #[.int .u8 10, .int .u8 0] 5)) := ⟨own2, Below.refl _ _, hb2⟩
    have HB2 : Below wp.heap.size wp (wp.alloc (.cells #[.int .u8 10, .int .u8 0] 5)) := (Below.refl _ wp).alloc (Nat.le_refl _) _
    generalize wp.alloc (.cells #[.int .u8 10, .int .u8 0] 5) = wout at *
    clear own2 hb2
    go_wp2_with fail
    refine (rq_calls _ _ ((kp : Int) + 4) 2 _ H2.zero hb4.1 hb4.2 (by decide) (by simp)).mono ?_
    rintro e ws ⟨As, ks, ps, rfl, hks, HS⟩
    rw [txt_b16] at hks HS
    have H3 := H2.app HS
    have HKS := Lib.hid hks
    have HBWR := Lib.hid HB2
    have HB3 := Bl.trans HB2 H3.bel
    have o3 := OwnB.fr H.own (Bl.fr HB3) (fun k h1 h2 => by have := OwnB.lt H.own k h1; omega)
    obtain ⟨A6, c6, e6, -, -, -, rd⟩ := SlB.of_own o3
    injection e6 with e61 e62 e63
    subst e61; subst e63
    have hln : ([10, 0] ++ b16 ((kp : Int) + 4)).length + bs.length ≤ 140737488355328 := by simp [b16_len]; omega
    clear H2 HS HB2 HB3 hks e62 o3 hl2 ww hwk
    have HN3 := Lib.hid H3
    go_wp2_with (at_builtin; refine wpList_append_b _ rfl (.tmp 309) (.tmp 310) _ rfl wp.heap.size 5 ib Try.underlying29 hib hbz0 hbz1 hbz2 _ ([10, 0] ++ b16 ((kp : Int) + 4)) rfl H3.own _ _ _ _ _ bs rfl HKB.out rd hln (Nat.le_trans H3.hb H3.bel.size) ?_; intro v7 w7 hown hg hat; have o7 : OwnB w7 wp.heap.size 5 v7 ([10, 0] ++ b16 ((kp : Int) + 4) ++ bs) := hown; have HB7 := Lib.hid (Bl.trans HN3.out.bel (Bl.of_fr ((Fr.refl _ ws).grown (S := fun k => wp.heap.size ≤ k) hg (fun k hk => .inl (OwnB.ge HN3.out.own k hk))) (Nat.le_trans HN3.out.hb HN3.out.bel.size) (fun k hk => hk))); obtain ⟨A7, n7, c7, rfl, hn7⟩ : ∃ A n c, v7 = .slice A n c ∧ n = (([10, 0] : List Int) ++ b16 ((kp : Int) + 4) ++ bs).length := (by obtain ⟨A, c, e, -⟩ := OwnB.slice o7; exact ⟨A, _, c, e, rfl⟩); clear hn7; clear hown hg hat rd H3)
    have CPD := rpad_calls _ _ 4 w7 (OwnB.low o7 (Nat.zero_le _)) (by simp [b16_len]; omega) (by decide)
    have hl7 : (([10, 0] : List Int) ++ b16 ((kp : Int) + 4) ++ bs).length = 4 + bs.length := by simp [b16_len]; omega
    rw [hl7] at CPD
    refine CPD.mono ?_
    rintro e w8 ⟨A8, k8, c8, rfl, hk8, HP8⟩
    have HZ : [10, 0] ++ b16 ((kp : Int) + 4) ++ bs ++ List.replicate (padTo (4 + bs.length) 4) 0 = cB c := by
      unfold cB
      rw [HK.out, HF.out, HBS.out, show (((bs.length + 4 : Nat) : Int)) = (kp : Int) + 4 by have h9 := HKB.out; omega, show padTo (4 + bs.length) 4 = (4 - (bs.length + 4) % 4) % 4 by unfold padTo; rw [if_neg (by decide)]; show (4 - (4 + bs.length) % 4) % 4 = _; rw [Nat.add_comm]]
    rw [HZ] at HP8 hk8
    have N8 : NewP wp.heap.size wout (.slice A8 k8 c8) (cB c) w8 := NewP.app ⟨o7, HB7.out, HN3.out.hb⟩ HP8
    have BF2 : Below w.heap.size w w8 := Bl.trans B5 (Bl.low (Bl.trans HBWR.out N8.bel) B5.size)
    have HK8 := Lib.hid hk8
    clear HP8 hk8 HZ CPD o7
    go_wp2
    go_ret2
    unfold PutC
    rw [cO_ok HE2.out, HE2.out]
    have hk8' := HK8.out
    subst hk8'
    exact ⟨BF2, A8, c8, rfl, OwnB.low N8.own B5.size⟩
set_option maxHeartbeats 4000000 in
set_option maxRecDepth 100000 in
theorem rput_8 (lo hi : Nat) (cs : Array Value) (c : Ck) (w : World) (hC : CkV w lo hi cs c) (hhi : hi ≤ w.heap.size) (hBd : CkB c) (hL : CkL c) (hk : c.k = 8) :
    Calls Try.prog 14 #[.agg cs] w (PutC w c) := by
  have hsz := hC.size
  have hbw : w.heap.size < (w.alloc (.cells cs 31)).heap.size := by simp
  have B0 : Below w.heap.size w (w.alloc (.cells cs 31)) := (Below.refl _ w).alloc (Nat.le_refl _) _
  have bC := Blk.new w cs 31
  have hC1 := hC.fr (S := nothing) ((Fr.refl _ w).alloc (.cells cs 31)) (fun _ _ _ h => h)
  have c0 := hC.c0
  rw [hk] at c0
  have hlen := bB_len hL
  have HK := Lib.hid hk
  have HHI := Lib.hid hhi
  have kk : kn c.k = true := by rw [hk]; rfl
  have HKN := Lib.hid kk
  obtain ⟨ib, hib, hbz0, hbz1, hbz2⟩ := info_parts info_b
  clear hk kk hhi
  have HE := Lib.hid (show bE c = 0 by simp [bE, HK.out])
  have HF := Lib.hid (show fl c = 0 by simp [fl, HK.out])
  have HBB := Lib.hid (show [] = bB c by simp [bB, HK.out])
  have cc := (bC.cell 0).trans c0
  go_enter Try.func14, Try.ntmps14
  go_wp2_with fail
  refine (rknown_calls _ _ (by decide)).mono ?_
  rintro e wk ⟨rfl, hwk⟩
  rw [hwk]
  clear hwk cc
  generalize w.alloc (.cells cs 31) = w1 at *
  have H := NewP.nil w1.heap.size w1 (Nat.le_refl _)
  obtain ⟨kv, hkv⟩ : ∃ kv : Nat, kv = ([] : List Int).length := ⟨_, rfl⟩
  have HKV := Lib.hid hkv
  clear hkv
  -- nothing is put: flags 0, kind 8
  go_upto_region 72 with fail
  have HBS := Lib.hid (HBB.out).symm
  have B5 := B0
  have HE2 := Lib.hid (cE_ok HKN.out HE.out (by rw [← HBB.out]; decide))
  have HKB := Lib.hid (show 0 = ([] : List Int).length from rfl)
  have hb4 : 0 ≤ (4 : Int) ∧ (4 : Int) < 4294967296 := by decide
  have ww := u64w hb4
  have hwk : IntKind.i64.wrap (4 : Int) = (4 : Int) := rfl
  have hlb : ([] : List Int).length + 4 ≤ 65535 := by decide
  have hl2 := hlb
  obtain ⟨bs, hbs⟩ : ∃ bs : List Int, bs = [] := ⟨_, rfl⟩
  rw [← hbs] at H HBB HBS HKB hlb
  clear HKV hlen
  -- flags 0, kind 8, the length 4, the world w1
  go_upto_region 75 with fail
  have own2 : OwnB (w1.alloc (.cells #[.int .u8 8, .int .u8 0] 5)) w1.heap.size 5 (.slice (some ⟨w1.heap.size, 0, none⟩) 2 2) [8, 0] := ⟨rfl, .inr ⟨w1.heap.size, 2, #[.int .u8 8, .int .u8 0], rfl, Nat.le_refl _, heap_alloc_new w1 _, Nat.le_refl _, (by decide), rfl, rfl⟩⟩
  have hb2 : w1.heap.size ≤ (w1.alloc (.cells #[.int .u8 8, .int .u8 0] 5)).heap.size := by simp
  have H2 : NewP w1.heap.size (w1.alloc (.cells #[.int .u8 8, .int .u8 0] 5)) (.slice (some ⟨w1.heap.size, 0, none⟩) 2 2) [8, 0] (w1.alloc (.cells #[.int .u8 8, .int .u8 0] 5)) := ⟨own2, Below.refl _ _, hb2⟩
  have HB2 : Below w1.heap.size w1 (w1.alloc (.cells #[.int .u8 8, .int .u8 0] 5)) := (Below.refl _ w1).alloc (Nat.le_refl _) _
  generalize w1.alloc (.cells #[.int .u8 8, .int .u8 0] 5) = wout at *
  clear own2 hb2
  go_wp2_with fail
  refine (rq_calls _ _ (4) 2 _ H2.zero hb4.1 hb4.2 (by decide) (by simp)).mono ?_
  rintro e ws ⟨As, ks, ps, rfl, hks, HS⟩
  rw [txt_b16] at hks HS
  have H3 := H2.app HS
  have HKS := Lib.hid hks
  have HBWR := Lib.hid HB2
  have HB3 := Bl.trans HB2 H3.bel
  have o3 := OwnB.fr H.own (Bl.fr HB3) (fun k h1 h2 => by have := OwnB.lt H.own k h1; omega)
  obtain ⟨A6, c6, e6, -, -, -, rd⟩ := SlB.of_own o3
  injection e6 with e61 e62 e63
  subst e61; subst e63
  have hln : ([8, 0] ++ b16 (4)).length + bs.length ≤ 140737488355328 := by simp [b16_len]; omega
  clear H2 HS HB2 HB3 hks e62 o3 hl2 ww hwk
  have HN3 := Lib.hid H3
  go_wp2_with (at_builtin; refine wpList_append_b _ rfl (.tmp 309) (.tmp 310) _ rfl w1.heap.size 5 ib Try.underlying29 hib hbz0 hbz1 hbz2 _ ([8, 0] ++ b16 (4)) rfl H3.own _ _ _ _ _ bs rfl HKB.out rd hln (Nat.le_trans H3.hb H3.bel.size) ?_; intro v7 w7 hown hg hat; have o7 : OwnB w7 w1.heap.size 5 v7 ([8, 0] ++ b16 (4) ++ bs) := hown; have HB7 := Lib.hid (Bl.trans HN3.out.bel (Bl.of_fr ((Fr.refl _ ws).grown (S := fun k => w1.heap.size ≤ k) hg (fun k hk => .inl (OwnB.ge HN3.out.own k hk))) (Nat.le_trans HN3.out.hb HN3.out.bel.size) (fun k hk => hk))); obtain ⟨A7, n7, c7, rfl, hn7⟩ : ∃ A n c, v7 = .slice A n c ∧ n = (([8, 0] : List Int) ++ b16 (4) ++ bs).length := (by obtain ⟨A, c, e, -⟩ := OwnB.slice o7; exact ⟨A, _, c, e, rfl⟩); clear hn7; clear hown hg hat rd H3)
  have CPD := rpad_calls _ _ 4 w7 (OwnB.low o7 (Nat.zero_le _)) (by simp [b16_len]; omega) (by decide)
  have hl7 : (([8, 0] : List Int) ++ b16 (4) ++ bs).length = 4 + bs.length := by simp [b16_len]; omega
  rw [hl7] at CPD
  refine CPD.mono ?_
  rintro e w8 ⟨A8, k8, c8, rfl, hk8, HP8⟩
  have HZ : [8, 0] ++ b16 (4) ++ bs ++ List.replicate (padTo (4 + bs.length) 4) 0 = cB c := by
    unfold cB
    rw [HK.out, HF.out, HBS.out, show (((bs.length + 4 : Nat) : Int)) = 4 by have h9 := HKB.out; omega, show padTo (4 + bs.length) 4 = (4 - (bs.length + 4) % 4) % 4 by unfold padTo; rw [if_neg (by decide)]; show (4 - (4 + bs.length) % 4) % 4 = _; rw [Nat.add_comm]]
  rw [HZ] at HP8 hk8
  have N8 : NewP w1.heap.size wout (.slice A8 k8 c8) (cB c) w8 := NewP.app ⟨o7, HB7.out, HN3.out.hb⟩ HP8
  have BF2 : Below w.heap.size w w8 := Bl.trans B5 (Bl.low (Bl.trans HBWR.out N8.bel) B5.size)
  have HK8 := Lib.hid hk8
  clear HP8 hk8 HZ CPD o7
  go_wp2
  go_ret2
  unfold PutC
  rw [cO_ok HE2.out, HE2.out]
  have hk8' := HK8.out
  subst hk8'
  exact ⟨BF2, A8, c8, rfl, OwnB.low N8.own B5.size⟩
set_option maxHeartbeats 4000000 in
set_option maxRecDepth 100000 in
theorem rput_11 (lo hi : Nat) (cs : Array Value) (c : Ck) (w : World) (hC : CkV w lo hi cs c) (hhi : hi ≤ w.heap.size) (hBd : CkB c) (hL : CkL c) (hk : c.k = 11) :
    Calls Try.prog 14 #[.agg cs] w (PutC w c) := by
  have hsz := hC.size
  have hbw : w.heap.size < (w.alloc (.cells cs 31)).heap.size := by simp
  have B0 : Below w.heap.size w (w.alloc (.cells cs 31)) := (Below.refl _ w).alloc (Nat.le_refl _) _
  have bC := Blk.new w cs 31
  have hC1 := hC.fr (S := nothing) ((Fr.refl _ w).alloc (.cells cs 31)) (fun _ _ _ h => h)
  have c0 := hC.c0
  rw [hk] at c0
  have hlen := bB_len hL
  have HK := Lib.hid hk
  have HHI := Lib.hid hhi
  have kk : kn c.k = true := by rw [hk]; rfl
  have HKN := Lib.hid kk
  obtain ⟨ib, hib, hbz0, hbz1, hbz2⟩ := info_parts info_b
  clear hk kk hhi
  have HE := Lib.hid (show bE c = 0 by simp [bE, HK.out])
  have HF := Lib.hid (show fl c = 0 by simp [fl, HK.out])
  have HBB := Lib.hid (show [] = bB c by simp [bB, HK.out])
  have cc := (bC.cell 0).trans c0
  go_enter Try.func14, Try.ntmps14
  go_wp2_with fail
  refine (rknown_calls _ _ (by decide)).mono ?_
  rintro e wk ⟨rfl, hwk⟩
  rw [hwk]
  clear hwk cc
  generalize w.alloc (.cells cs 31) = w1 at *
  have H := NewP.nil w1.heap.size w1 (Nat.le_refl _)
  obtain ⟨kv, hkv⟩ : ∃ kv : Nat, kv = ([] : List Int).length := ⟨_, rfl⟩
  have HKV := Lib.hid hkv
  clear hkv
  -- nothing is put: flags 0, kind 11
  go_upto_region 72 with fail
  have HBS := Lib.hid (HBB.out).symm
  have B5 := B0
  have HE2 := Lib.hid (cE_ok HKN.out HE.out (by rw [← HBB.out]; decide))
  have HKB := Lib.hid (show 0 = ([] : List Int).length from rfl)
  have hb4 : 0 ≤ (4 : Int) ∧ (4 : Int) < 4294967296 := by decide
  have ww := u64w hb4
  have hwk : IntKind.i64.wrap (4 : Int) = (4 : Int) := rfl
  have hlb : ([] : List Int).length + 4 ≤ 65535 := by decide
  have hl2 := hlb
  obtain ⟨bs, hbs⟩ : ∃ bs : List Int, bs = [] := ⟨_, rfl⟩
  rw [← hbs] at H HBB HBS HKB hlb
  clear HKV hlen
  -- flags 0, kind 11, the length 4, the world w1
  go_upto_region 75 with fail
  have own2 : OwnB (w1.alloc (.cells #[.int .u8 11, .int .u8 0] 5)) w1.heap.size 5 (.slice (some ⟨w1.heap.size, 0, none⟩) 2 2) [11, 0] := ⟨rfl, .inr ⟨w1.heap.size, 2, #[.int .u8 11, .int .u8 0], rfl, Nat.le_refl _, heap_alloc_new w1 _, Nat.le_refl _, (by decide), rfl, rfl⟩⟩
  have hb2 : w1.heap.size ≤ (w1.alloc (.cells #[.int .u8 11, .int .u8 0] 5)).heap.size := by simp
  have H2 : NewP w1.heap.size (w1.alloc (.cells #[.int .u8 11, .int .u8 0] 5)) (.slice (some ⟨w1.heap.size, 0, none⟩) 2 2) [11, 0] (w1.alloc (.cells #[.int .u8 11, .int .u8 0] 5)) := ⟨own2, Below.refl _ _, hb2⟩
  have HB2 : Below w1.heap.size w1 (w1.alloc (.cells #[.int .u8 11, .int .u8 0] 5)) := (Below.refl _ w1).alloc (Nat.le_refl _) _
  generalize w1.alloc (.cells #[.int .u8 11, .int .u8 0] 5) = wout at *
  clear own2 hb2
  go_wp2_with fail
  refine (rq_calls _ _ (4) 2 _ H2.zero hb4.1 hb4.2 (by decide) (by simp)).mono ?_
  rintro e ws ⟨As, ks, ps, rfl, hks, HS⟩
  rw [txt_b16] at hks HS
  have H3 := H2.app HS
  have HKS := Lib.hid hks
  have HBWR := Lib.hid HB2
  have HB3 := Bl.trans HB2 H3.bel
  have o3 := OwnB.fr H.own (Bl.fr HB3) (fun k h1 h2 => by have := OwnB.lt H.own k h1; omega)
  obtain ⟨A6, c6, e6, -, -, -, rd⟩ := SlB.of_own o3
  injection e6 with e61 e62 e63
  subst e61; subst e63
  have hln : ([11, 0] ++ b16 (4)).length + bs.length ≤ 140737488355328 := by simp [b16_len]; omega
  clear H2 HS HB2 HB3 hks e62 o3 hl2 ww hwk
  have HN3 := Lib.hid H3
  go_wp2_with (at_builtin; refine wpList_append_b _ rfl (.tmp 309) (.tmp 310) _ rfl w1.heap.size 5 ib Try.underlying29 hib hbz0 hbz1 hbz2 _ ([11, 0] ++ b16 (4)) rfl H3.own _ _ _ _ _ bs rfl HKB.out rd hln (Nat.le_trans H3.hb H3.bel.size) ?_; intro v7 w7 hown hg hat; have o7 : OwnB w7 w1.heap.size 5 v7 ([11, 0] ++ b16 (4) ++ bs) := hown; have HB7 := Lib.hid (Bl.trans HN3.out.bel (Bl.of_fr ((Fr.refl _ ws).grown (S := fun k => w1.heap.size ≤ k) hg (fun k hk => .inl (OwnB.ge HN3.out.own k hk))) (Nat.le_trans HN3.out.hb HN3.out.bel.size) (fun k hk => hk))); obtain ⟨A7, n7, c7, rfl, hn7⟩ : ∃ A n c, v7 = .slice A n c ∧ n = (([11, 0] : List Int) ++ b16 (4) ++ bs).length := (by obtain ⟨A, c, e, -⟩ := OwnB.slice o7; exact ⟨A, _, c, e, rfl⟩); clear hn7; clear hown hg hat rd H3)
  have CPD := rpad_calls _ _ 4 w7 (OwnB.low o7 (Nat.zero_le _)) (by simp [b16_len]; omega) (by decide)
  have hl7 : (([11, 0] : List Int) ++ b16 (4) ++ bs).length = 4 + bs.length := by simp [b16_len]; omega
  rw [hl7] at CPD
  refine CPD.mono ?_
  rintro e w8 ⟨A8, k8, c8, rfl, hk8, HP8⟩
  have HZ : [11, 0] ++ b16 (4) ++ bs ++ List.replicate (padTo (4 + bs.length) 4) 0 = cB c := by
    unfold cB
    rw [HK.out, HF.out, HBS.out, show (((bs.length + 4 : Nat) : Int)) = 4 by have h9 := HKB.out; omega, show padTo (4 + bs.length) 4 = (4 - (bs.length + 4) % 4) % 4 by unfold padTo; rw [if_neg (by decide)]; show (4 - (4 + bs.length) % 4) % 4 = _; rw [Nat.add_comm]]
  rw [HZ] at HP8 hk8
  have N8 : NewP w1.heap.size wout (.slice A8 k8 c8) (cB c) w8 := NewP.app ⟨o7, HB7.out, HN3.out.hb⟩ HP8
  have BF2 : Below w.heap.size w w8 := Bl.trans B5 (Bl.low (Bl.trans HBWR.out N8.bel) B5.size)
  have HK8 := Lib.hid hk8
  clear HP8 hk8 HZ CPD o7
  go_wp2
  go_ret2
  unfold PutC
  rw [cO_ok HE2.out, HE2.out]
  have hk8' := HK8.out
  subst hk8'
  exact ⟨BF2, A8, c8, rfl, OwnB.low N8.own B5.size⟩
set_option maxHeartbeats 4000000 in
set_option maxRecDepth 100000 in
theorem rput_14 (lo hi : Nat) (cs : Array Value) (c : Ck) (w : World) (hC : CkV w lo hi cs c) (hhi : hi ≤ w.heap.size) (hBd : CkB c) (hL : CkL c) (hk : c.k = 14) :
    Calls Try.prog 14 #[.agg cs] w (PutC w c) := by
  have hsz := hC.size
  have hbw : w.heap.size < (w.alloc (.cells cs 31)).heap.size := by simp
  have B0 : Below w.heap.size w (w.alloc (.cells cs 31)) := (Below.refl _ w).alloc (Nat.le_refl _) _
  have bC := Blk.new w cs 31
  have hC1 := hC.fr (S := nothing) ((Fr.refl _ w).alloc (.cells cs 31)) (fun _ _ _ h => h)
  have c0 := hC.c0
  rw [hk] at c0
  have hlen := bB_len hL
  have HK := Lib.hid hk
  have HHI := Lib.hid hhi
  have kk : kn c.k = true := by rw [hk]; rfl
  have HKN := Lib.hid kk
  obtain ⟨ib, hib, hbz0, hbz1, hbz2⟩ := info_parts info_b
  clear hk kk hhi
  have HE := Lib.hid (show bE c = 0 by simp [bE, HK.out])
  have HBB := Lib.hid (show [] = bB c by simp [bB, HK.out])
  cases hr : c.r with
  | false =>
    have HF := Lib.hid (show fl c = 0 by simp [fl, HK.out, hr, bt])
    have c4 := hC.c4
    rw [hr] at c4
    clear hr
    have cc := (bC.cell 0).trans c0
    go_enter Try.func14, Try.ntmps14
    go_wp2_with fail
    refine (rknown_calls _ _ (by decide)).mono ?_
    rintro e wk ⟨rfl, hwk⟩
    rw [hwk]
    clear hwk cc
    generalize w.alloc (.cells cs 31) = w1 at *
    have H := NewP.nil w1.heap.size w1 (Nat.le_refl _)
    obtain ⟨kv, hkv⟩ : ∃ kv : Nat, kv = ([] : List Int).length := ⟨_, rfl⟩
    have HKV := Lib.hid hkv
    clear hkv
    have cc := (H.cell bC hbw (i := 4)).trans c4
    -- nothing is put: flags 0, kind 14
    go_upto_region 72 with fail
    have HBS := Lib.hid (HBB.out).symm
    have B5 := B0
    have HE2 := Lib.hid (cE_ok HKN.out HE.out (by rw [← HBB.out]; decide))
    have HKB := Lib.hid (show 0 = ([] : List Int).length from rfl)
    have hb4 : 0 ≤ (4 : Int) ∧ (4 : Int) < 4294967296 := by decide
    have ww := u64w hb4
    have hwk : IntKind.i64.wrap (4 : Int) = (4 : Int) := rfl
    have hlb : ([] : List Int).length + 4 ≤ 65535 := by decide
    have hl2 := hlb
    obtain ⟨bs, hbs⟩ : ∃ bs : List Int, bs = [] := ⟨_, rfl⟩
    rw [← hbs] at H HBB HBS HKB hlb
    clear HKV hlen
    -- flags 0, kind 14, the length 4, the world w1
    go_upto_region 75 with fail
    have own2 : OwnB (w1.alloc (.cells #[.int .u8 14, .int .u8 0] 5)) w1.heap.size 5 (.slice (some ⟨w1.heap.size, 0, none⟩) 2 2) [14, 0] := ⟨rfl, .inr ⟨w1.heap.size, 2, #[.int .u8 14, .int .u8 0], rfl, Nat.le_refl _, heap_alloc_new w1 _, Nat.le_refl _, (by decide), rfl, rfl⟩⟩
    have hb2 : w1.heap.size ≤ (w1.alloc (.cells #[.int .u8 14, .int .u8 0] 5)).heap.size := by simp
    have H2 : NewP w1.heap.size (w1.alloc (.cells #[.int .u8 14, .int .u8 0] 5)) (.slice (some ⟨w1.heap.size, 0, none⟩) 2 2) [14, 0] (w1.alloc (.cells #[.int .u8 14, .int .u8 0] 5)) := ⟨own2, Below.refl _ _, hb2⟩
    have HB2 : Below w1.heap.size w1 (w1.alloc (.cells #[.int .u8 14, .int .u8 0] 5)) := (Below.refl _ w1).alloc (Nat.le_refl _) _
    generalize w1.alloc (.cells #[.int .u8 14, .int .u8 0] 5) = wout at *
    clear own2 hb2
    go_wp2_with fail
    refine (rq_calls _ _ (4) 2 _ H2.zero hb4.1 hb4.2 (by decide) (by simp)).mono ?_
    rintro e ws ⟨As, ks, ps, rfl, hks, HS⟩
    rw [txt_b16] at hks HS
    have H3 := H2.app HS
    have HKS := Lib.hid hks
    have HBWR := Lib.hid HB2
    have HB3 := Bl.trans HB2 H3.bel
    have o3 := OwnB.fr H.own (Bl.fr HB3) (fun k h1 h2 => by have := OwnB.lt H.own k h1; omega)
    obtain ⟨A6, c6, e6, -, -, -, rd⟩ := SlB.of_own o3
    injection e6 with e61 e62 e63
    subst e61; subst e63
    have hln : ([14, 0] ++ b16 (4)).length + bs.length ≤ 140737488355328 := by simp [b16_len]; omega
    clear H2 HS HB2 HB3 hks e62 o3 hl2 ww hwk
    have HN3 := Lib.hid H3
    go_wp2_with (at_builtin; refine wpList_append_b _ rfl (.tmp 309) (.tmp 310) _ rfl w1.heap.size 5 ib Try.underlying29 hib hbz0 hbz1 hbz2 _ ([14, 0] ++ b16 (4)) rfl H3.own _ _ _ _ _ bs rfl HKB.out rd hln (Nat.le_trans H3.hb H3.bel.size) ?_; intro v7 w7 hown hg hat; have o7 : OwnB w7 w1.heap.size 5 v7 ([14, 0] ++ b16 (4) ++ bs) := hown; have HB7 := Lib.hid (Bl.trans HN3.out.bel (Bl.of_fr ((Fr.refl _ ws).grown (S := fun k => w1.heap.size ≤ k) hg (fun k hk => .inl (OwnB.ge HN3.out.own k hk))) (Nat.le_trans HN3.out.hb HN3.out.bel.size) (fun k hk => hk))); obtain ⟨A7, n7, c7, rfl, hn7⟩ : ∃ A n c, v7 = .slice A n c ∧ n = (([14, 0] : List Int) ++ b16 (4) ++ bs).length := (by obtain ⟨A, c, e, -⟩ := OwnB.slice o7; exact ⟨A, _, c, e, rfl⟩); clear hn7; clear hown hg hat rd H3)
    have CPD := rpad_calls _ _ 4 w7 (OwnB.low o7 (Nat.zero_le _)) (by simp [b16_len]; omega) (by decide)
    have hl7 : (([14, 0] : List Int) ++ b16 (4) ++ bs).length = 4 + bs.length := by simp [b16_len]; omega
    rw [hl7] at CPD
    refine CPD.mono ?_
    rintro e w8 ⟨A8, k8, c8, rfl, hk8, HP8⟩
    have HZ : [14, 0] ++ b16 (4) ++ bs ++ List.replicate (padTo (4 + bs.length) 4) 0 = cB c := by
      unfold cB
      rw [HK.out, HF.out, HBS.out, show (((bs.length + 4 : Nat) : Int)) = 4 by have h9 := HKB.out; omega, show padTo (4 + bs.length) 4 = (4 - (bs.length + 4) % 4) % 4 by unfold padTo; rw [if_neg (by decide)]; show (4 - (4 + bs.length) % 4) % 4 = _; rw [Nat.add_comm]]
    rw [HZ] at HP8 hk8
    have N8 : NewP w1.heap.size wout (.slice A8 k8 c8) (cB c) w8 := NewP.app ⟨o7, HB7.out, HN3.out.hb⟩ HP8
    have BF2 : Below w.heap.size w w8 := Bl.trans B5 (Bl.low (Bl.trans HBWR.out N8.bel) B5.size)
    have HK8 := Lib.hid hk8
    clear HP8 hk8 HZ CPD o7
    go_wp2
    go_ret2
    unfold PutC
    rw [cO_ok HE2.out, HE2.out]
    have hk8' := HK8.out
    subst hk8'
    exact ⟨BF2, A8, c8, rfl, OwnB.low N8.own B5.size⟩
  | true =>
    have HF := Lib.hid (show fl c = 1 by simp [fl, HK.out, hr, bt])
    have c4 := hC.c4
    rw [hr] at c4
    clear hr
    have cc := (bC.cell 0).trans c0
    go_enter Try.func14, Try.ntmps14
    go_wp2_with fail
    refine (rknown_calls _ _ (by decide)).mono ?_
    rintro e wk ⟨rfl, hwk⟩
    rw [hwk]
    clear hwk cc
    generalize w.alloc (.cells cs 31) = w1 at *
    have H := NewP.nil w1.heap.size w1 (Nat.le_refl _)
    obtain ⟨kv, hkv⟩ : ∃ kv : Nat, kv = ([] : List Int).length := ⟨_, rfl⟩
    have HKV := Lib.hid hkv
    clear hkv
    have cc := (H.cell bC hbw (i := 4)).trans c4
    -- nothing is put: flags 1, kind 14
    go_upto_region 72 with fail
    have HBS := Lib.hid (HBB.out).symm
    have B5 := B0
    have HE2 := Lib.hid (cE_ok HKN.out HE.out (by rw [← HBB.out]; decide))
    have HKB := Lib.hid (show 0 = ([] : List Int).length from rfl)
    have hb4 : 0 ≤ (4 : Int) ∧ (4 : Int) < 4294967296 := by decide
    have ww := u64w hb4
    have hwk : IntKind.i64.wrap (4 : Int) = (4 : Int) := rfl
    have hlb : ([] : List Int).length + 4 ≤ 65535 := by decide
    have hl2 := hlb
    obtain ⟨bs, hbs⟩ : ∃ bs : List Int, bs = [] := ⟨_, rfl⟩
    rw [← hbs] at H HBB HBS HKB hlb
    clear HKV hlen
    -- flags 1, kind 14, the length 4, the world w1
    go_upto_region 75 with fail
    have own2 : OwnB (w1.alloc (.cells #[.int .u8 14, .int .u8 1] 5)) w1.heap.size 5 (.slice (some ⟨w1.heap.size, 0, none⟩) 2 2) [14, 1] := ⟨rfl, .inr ⟨w1.heap.size, 2, #[.int .u8 14, .int .u8 1], rfl, Nat.le_refl _, heap_alloc_new w1 _, Nat.le_refl _, (by decide), rfl, rfl⟩⟩
    have hb2 : w1.heap.size ≤ (w1.alloc (.cells #[.int .u8 14, .int .u8 1] 5)).heap.size := by simp
    have H2 : NewP w1.heap.size (w1.alloc (.cells #[.int .u8 14, .int .u8 1] 5)) (.slice (some ⟨w1.heap.size, 0, none⟩) 2 2) [14, 1] (w1.alloc (.cells #[.int .u8 14, .int .u8 1] 5)) := ⟨own2, Below.refl _ _, hb2⟩
    have HB2 : Below w1.heap.size w1 (w1.alloc (.cells #[.int .u8 14, .int .u8 1] 5)) := (Below.refl _ w1).alloc (Nat.le_refl _) _
    generalize w1.alloc (.cells #[.int .u8 14, .int .u8 1] 5) = wout at *
    clear own2 hb2
    go_wp2_with fail
    refine (rq_calls _ _ (4) 2 _ H2.zero hb4.1 hb4.2 (by decide) (by simp)).mono ?_
    rintro e ws ⟨As, ks, ps, rfl, hks, HS⟩
    rw [txt_b16] at hks HS
    have H3 := H2.app HS
    have HKS := Lib.hid hks
    have HBWR := Lib.hid HB2
    have HB3 := Bl.trans HB2 H3.bel
    have o3 := OwnB.fr H.own (Bl.fr HB3) (fun k h1 h2 => by have := OwnB.lt H.own k h1; omega)
    obtain ⟨A6, c6, e6, -, -, -, rd⟩ := SlB.of_own o3
    injection e6 with e61 e62 e63
    subst e61; subst e63
    have hln : ([14, 1] ++ b16 (4)).length + bs.length ≤ 140737488355328 := by simp [b16_len]; omega
    clear H2 HS HB2 HB3 hks e62 o3 hl2 ww hwk
    have HN3 := Lib.hid H3
    go_wp2_with (at_builtin; refine wpList_append_b _ rfl (.tmp 309) (.tmp 310) _ rfl w1.heap.size 5 ib Try.underlying29 hib hbz0 hbz1 hbz2 _ ([14, 1] ++ b16 (4)) rfl H3.own _ _ _ _ _ bs rfl HKB.out rd hln (Nat.le_trans H3.hb H3.bel.size) ?_; intro v7 w7 hown hg hat; have o7 : OwnB w7 w1.heap.size 5 v7 ([14, 1] ++ b16 (4) ++ bs) := hown; have HB7 := Lib.hid (Bl.trans HN3.out.bel (Bl.of_fr ((Fr.refl _ ws).grown (S := fun k => w1.heap.size ≤ k) hg (fun k hk => .inl (OwnB.ge HN3.out.own k hk))) (Nat.le_trans HN3.out.hb HN3.out.bel.size) (fun k hk => hk))); obtain ⟨A7, n7, c7, rfl, hn7⟩ : ∃ A n c, v7 = .slice A n c ∧ n = (([14, 1] : List Int) ++ b16 (4) ++ bs).length := (by obtain ⟨A, c, e, -⟩ := OwnB.slice o7; exact ⟨A, _, c, e, rfl⟩); clear hn7; clear hown hg hat rd H3)
    have CPD := rpad_calls _ _ 4 w7 (OwnB.low o7 (Nat.zero_le _)) (by simp [b16_len]; omega) (by decide)
    have hl7 : (([14, 1] : List Int) ++ b16 (4) ++ bs).length = 4 + bs.length := by simp [b16_len]; omega
    rw [hl7] at CPD
    refine CPD.mono ?_
    rintro e w8 ⟨A8, k8, c8, rfl, hk8, HP8⟩
    have HZ : [14, 1] ++ b16 (4) ++ bs ++ List.replicate (padTo (4 + bs.length) 4) 0 = cB c := by
      unfold cB
      rw [HK.out, HF.out, HBS.out, show (((bs.length + 4 : Nat) : Int)) = 4 by have h9 := HKB.out; omega, show padTo (4 + bs.length) 4 = (4 - (bs.length + 4) % 4) % 4 by unfold padTo; rw [if_neg (by decide)]; show (4 - (4 + bs.length) % 4) % 4 = _; rw [Nat.add_comm]]
    rw [HZ] at HP8 hk8
    have N8 : NewP w1.heap.size wout (.slice A8 k8 c8) (cB c) w8 := NewP.app ⟨o7, HB7.out, HN3.out.hb⟩ HP8
    have BF2 : Below w.heap.size w w8 := Bl.trans B5 (Bl.low (Bl.trans HBWR.out N8.bel) B5.size)
    have HK8 := Lib.hid hk8
    clear HP8 hk8 HZ CPD o7
    go_wp2
    go_ret2
    unfold PutC
    rw [cO_ok HE2.out, HE2.out]
    have hk8' := HK8.out
    subst hk8'
    exact ⟨BF2, A8, c8, rfl, OwnB.low N8.own B5.size⟩
end Go.Proofs.Ytaifihoheieneaa.Chk
namespace Go.Proofs.Ytaifihoheieneaa.Chk
open Go.RowKit Go.Proofs.Ytaifihoheieneaa.Mem Go.Proofs.Ytaifihoheieneaa.Octet Go.Proofs.Ytaifihoheieneaa.Prm
set_option linter.unusedVariables false
set_option linter.unusedSimpArgs false
set_option maxHeartbeats 4000000 in
set_option maxRecDepth 100000 in
theorem rput_9 (lo hi : Nat) (cs : Array Value) (c : Ck) (w : World) (hC : CkV w lo hi cs c) (hhi : hi ≤ w.heap.size) (hBd : CkB c) (hL : CkL c) (hk : c.k = 9) :
    Calls Try.prog 14 #[.agg cs] w (PutC w c) := by
  have hsz := hC.size
  have hbw : w.heap.size < (w.alloc (.cells cs 31)).heap.size := by simp
  have B0 : Below w.heap.size w (w.alloc (.cells cs 31)) := (Below.refl _ w).alloc (Nat.le_refl _) _
  have bC := Blk.new w cs 31
  have hC1 := hC.fr (S := nothing) ((Fr.refl _ w).alloc (.cells cs 31)) (fun _ _ _ h => h)
  have c0 := hC.c0
  rw [hk] at c0
  have hlen := bB_len hL
  have HK := Lib.hid hk
  have HHI := Lib.hid hhi
  have kk : kn c.k = true := by rw [hk]; rfl
  have HKN := Lib.hid kk
  obtain ⟨ib, hib, hbz0, hbz1, hbz2⟩ := info_parts info_b
  clear hk kk hhi
  have HF := Lib.hid (show fl c = 0 by simp [fl, HK.out])
  have HBB := Lib.hid (show [] ++ enc c.ps = bB c by simp [bB, HK.out])
  have cc := (bC.cell 0).trans c0
  go_enter Try.func14, Try.ntmps14
  go_wp2_with fail
  refine (rknown_calls _ _ (by decide)).mono ?_
  rintro e wk ⟨rfl, hwk⟩
  rw [hwk]
  clear hwk cc
  generalize w.alloc (.cells cs 31) = w1 at *
  have H := NewP.nil w1.heap.size w1 (Nat.le_refl _)
  obtain ⟨kv, hkv⟩ : ∃ kv : Nat, kv = ([] : List Int).length := ⟨_, rfl⟩
  have HKV := Lib.hid hkv
  clear hkv
  -- parameters behind the bytes ([] : List Int); flags 0, kind 9
  have hCw := hC1.bl H.bel (Nat.le_trans HHI.out (Nat.le_of_lt hbw))
  obtain ⟨A17, p17, e17, h17⟩ := hCw.c17
  have cc := (H.cell bC hbw (i := 17)).trans e17
  have hs17 := H.bel.size
  have l17 := hL.ps
  have CPP := Prm.rput_calls _ _ A17 p17 c.ps _ h17 (Nat.le_trans HHI.out (Nat.le_trans (Nat.le_of_lt hbw) hs17)) hBd.ps (by omega) (by have := hL.pl; omega)
  unfold RPutR at CPP
  have HCPP := Lib.hid CPP
  clear CPP hCw
  go_upto_region 66 with fail
  cases hf : allFit c.ps with
  | false =>
    have HE2 := Lib.hid (show cE c = 43 by unfold cE; rw [if_neg (by rw [HKN.out]; decide), show bE c = 43 by simp [bE, HK.out, hf]]; rfl)
    have HF9 := Lib.hid hf
    clear hf
    go_wp2_with fail
    refine HCPP.out.mono ?_
    rintro e wz ⟨BZ, hz⟩
    rw [HF9.out] at hz
    obtain rfl : e = _ := hz
    have B5 := Bl.trans B0 (Bl.low (Bl.trans H.bel (Bl.low BZ hs17)) (Nat.le_of_lt hbw))
    clear BZ HCPP H cc
    go_wp2
    go_ret2
    unfold PutC
    rw [cO_bad (by rw [HE2.out]; decide), HE2.out]
    exact ⟨B5, none, 0, rfl, OwnB.nil _ _ _⟩
  | true =>
    have HE := Lib.hid (show bE c = 0 by simp [bE, HK.out, hf])
    have HF9 := Lib.hid hf
    clear hf
    go_wp2_with fail
    refine HCPP.out.mono ?_
    rintro e wz ⟨BZ, hz⟩
    rw [HF9.out] at hz
    obtain ⟨Az, cz, rfl, oz⟩ := hz
    have H1 := H.bl BZ
    obtain ⟨Az', cz', ez', -, -, -, rdz⟩ := SlB.of_own oz
    injection ez' with ez1 ez2 ez3
    subst ez1; subst ez3
    have hlnb : (([] : List Int)).length + (enc c.ps).length ≤ 140737488355328 := by simp [b16_len, b32_len]; omega
    have HNH := Lib.hid H1
    clear ez2 oz BZ HCPP H cc l17 hs17
    have H := H1
    clear H1
    go_upto_region 72 with (at_builtin; refine wpList_append_b _ rfl (.tmp 270) (.tmp 271) _ rfl w1.heap.size 5 ib Try.underlying29 hib hbz0 hbz1 hbz2 _ (([] : List Int)) rfl H.own _ _ _ _ _ (enc c.ps) rfl rfl rdz hlnb (Nat.le_trans H.hb H.bel.size) ?_; intro v3 wp hown hg hat; have H3 : NewP w1.heap.size w1 v3 (([] : List Int) ++ enc c.ps) wp := ⟨hown, Bl.trans HNH.out.bel (Bl.of_fr ((Fr.refl _ _).grown (S := fun k => w1.heap.size ≤ k) hg (fun k hk => .inl (OwnB.ge HNH.out.own k hk))) (Nat.le_trans HNH.out.hb HNH.out.bel.size) (fun k hk => hk)), HNH.out.hb⟩; obtain ⟨Ap, kp, pp, rfl, hkp⟩ := H3.shape; have HKV2 := Lib.hid hkp; clear hkp hown hg hat rdz H)
    clear HKV
    have HKV := HKV2
    have H := H3
    clear H3 HKV2 hlnb HNH
    -- H's bytes are the body's; the flags' value is 0 (HF: fl c = it), the kind 9
    rw [HBB.out] at H HKV
    have HKL := HKV.out
    obtain ⟨bs, hbs⟩ : ∃ bs, bB c = bs := ⟨_, rfl⟩
    have HBS := Lib.hid hbs
    rw [hbs] at H HKL hlen
    have hkb : kp ≤ 10000000000 := by omega
    have hwk : IntKind.i64.wrap ((kp : Int) + 4) = (kp : Int) + 4 := IntWalk.i64_in _ (by omega)
    have HKB := Lib.hid HKL
    have hs0 := H.bel.size
    have B5 := Bl.trans B0 (Bl.low H.bel (Nat.le_of_lt hbw))
    by_cases hl : 65535 < bs.length + 4
    · have he := cE_long HKN.out HE.out (by rw [HBS.out]; exact hl)
      have HE2 := Lib.hid he
      have hl2 : decide ((65535 : Int) < (kp : Int) + 4) = true := decide_eq_true (by omega)
      clear he hl HKL hbs HKV hkb
      go_wp2
      go_ret2
      unfold PutC
      rw [cO_bad (by rw [HE2.out]; decide), HE2.out]
      exact ⟨B5, none, 0, rfl, OwnB.nil _ _ _⟩
    · have he := cE_ok HKN.out HE.out (by rw [HBS.out]; exact hl)
      have HE2 := Lib.hid he
      have hl2 : decide ((65535 : Int) < (kp : Int) + 4) = false := decide_eq_false (by omega)
      have hb4 : 0 ≤ (kp : Int) + 4 ∧ (kp : Int) + 4 < 4294967296 := by omega
      have ww := u64w hb4
      have hlb : bs.length + 4 ≤ 65535 := by omega
      clear he hl HKL hbs HKV hkb hlen
      -- flags 0, kind 9, the length (kp : Int) + 4, the world wp
      go_upto_region 75 with fail
      have own2 : OwnB (wp.alloc (.cells #[.int .u8 9, .int .u8 0] 5)) wp.heap.size 5 (.slice (some ⟨wp.heap.size, 0, none⟩) 2 2) [9, 0] := ⟨rfl, .inr ⟨wp.heap.size, 2, #[.int .u8 9, .int .u8 0], rfl, Nat.le_refl _, heap_alloc_new wp _, Nat.le_refl _, (by decide), rfl, rfl⟩⟩
      have hb2 : wp.heap.size ≤ (wp.alloc (.cells #[.int .u8 9, .int .u8 0] 5)).heap.size := by simp
      have H2 : NewP wp.heap.size (wp.alloc (.cells #[.int .u8 9, .int .u8 0] 5)) (.slice (some ⟨wp.heap.size, 0, none⟩) 2 2) [9, 0] (wp.alloc (.cells #[.int .u8 9, .int .u8 0] 5)) := ⟨own2, Below.refl _ _, hb2⟩
      have HB2 : Below wp.heap.size wp (wp.alloc (.cells #[.int .u8 9, .int .u8 0] 5)) := (Below.refl _ wp).alloc (Nat.le_refl _) _
      generalize wp.alloc (.cells #[.int .u8 9, .int .u8 0] 5) = wout at *
      clear own2 hb2
      go_wp2_with fail
      refine (rq_calls _ _ ((kp : Int) + 4) 2 _ H2.zero hb4.1 hb4.2 (by decide) (by simp)).mono ?_
      rintro e ws ⟨As, ks, ps, rfl, hks, HS⟩
      rw [txt_b16] at hks HS
      have H3 := H2.app HS
      have HKS := Lib.hid hks
      have HBWR := Lib.hid HB2
      have HB3 := Bl.trans HB2 H3.bel
      have o3 := OwnB.fr H.own (Bl.fr HB3) (fun k h1 h2 => by have := OwnB.lt H.own k h1; omega)
      obtain ⟨A6, c6, e6, -, -, -, rd⟩ := SlB.of_own o3
      injection e6 with e61 e62 e63
      subst e61; subst e63
      have hln : ([9, 0] ++ b16 ((kp : Int) + 4)).length + bs.length ≤ 140737488355328 := by simp [b16_len]; omega
      clear H2 HS HB2 HB3 hks e62 o3 hl2 ww hwk
      have HN3 := Lib.hid H3
      go_wp2_with (at_builtin; refine wpList_append_b _ rfl (.tmp 309) (.tmp 310) _ rfl wp.heap.size 5 ib Try.underlying29 hib hbz0 hbz1 hbz2 _ ([9, 0] ++ b16 ((kp : Int) + 4)) rfl H3.own _ _ _ _ _ bs rfl HKB.out rd hln (Nat.le_trans H3.hb H3.bel.size) ?_; intro v7 w7 hown hg hat; have o7 : OwnB w7 wp.heap.size 5 v7 ([9, 0] ++ b16 ((kp : Int) + 4) ++ bs) := hown; have HB7 := Lib.hid (Bl.trans HN3.out.bel (Bl.of_fr ((Fr.refl _ ws).grown (S := fun k => wp.heap.size ≤ k) hg (fun k hk => .inl (OwnB.ge HN3.out.own k hk))) (Nat.le_trans HN3.out.hb HN3.out.bel.size) (fun k hk => hk))); obtain ⟨A7, n7, c7, rfl, hn7⟩ : ∃ A n c, v7 = .slice A n c ∧ n = (([9, 0] : List Int) ++ b16 ((kp : Int) + 4) ++ bs).length := (by obtain ⟨A, c, e, -⟩ := OwnB.slice o7; exact ⟨A, _, c, e, rfl⟩); clear hn7; clear hown hg hat rd H3)
      have CPD := rpad_calls _ _ 4 w7 (OwnB.low o7 (Nat.zero_le _)) (by simp [b16_len]; omega) (by decide)
      have hl7 : (([9, 0] : List Int) ++ b16 ((kp : Int) + 4) ++ bs).length = 4 + bs.length := by simp [b16_len]; omega
      rw [hl7] at CPD
      refine CPD.mono ?_
      rintro e w8 ⟨A8, k8, c8, rfl, hk8, HP8⟩
      have HZ : [9, 0] ++ b16 ((kp : Int) + 4) ++ bs ++ List.replicate (padTo (4 + bs.length) 4) 0 = cB c := by
        unfold cB
        rw [HK.out, HF.out, HBS.out, show (((bs.length + 4 : Nat) : Int)) = (kp : Int) + 4 by have h9 := HKB.out; omega, show padTo (4 + bs.length) 4 = (4 - (bs.length + 4) % 4) % 4 by unfold padTo; rw [if_neg (by decide)]; show (4 - (4 + bs.length) % 4) % 4 = _; rw [Nat.add_comm]]
      rw [HZ] at HP8 hk8
      have N8 : NewP wp.heap.size wout (.slice A8 k8 c8) (cB c) w8 := NewP.app ⟨o7, HB7.out, HN3.out.hb⟩ HP8
      have BF2 : Below w.heap.size w w8 := Bl.trans B5 (Bl.low (Bl.trans HBWR.out N8.bel) B5.size)
      have HK8 := Lib.hid hk8
      clear HP8 hk8 HZ CPD o7
      go_wp2
      go_ret2
      unfold PutC
      rw [cO_ok HE2.out, HE2.out]
      have hk8' := HK8.out
      subst hk8'
      exact ⟨BF2, A8, c8, rfl, OwnB.low N8.own B5.size⟩
set_option maxHeartbeats 4000000 in
set_option maxRecDepth 100000 in
theorem rput_130 (lo hi : Nat) (cs : Array Value) (c : Ck) (w : World) (hC : CkV w lo hi cs c) (hhi : hi ≤ w.heap.size) (hBd : CkB c) (hL : CkL c) (hk : c.k = 130) :
    Calls Try.prog 14 #[.agg cs] w (PutC w c) := by
  have hsz := hC.size
  have hbw : w.heap.size < (w.alloc (.cells cs 31)).heap.size := by simp
  have B0 : Below w.heap.size w (w.alloc (.cells cs 31)) := (Below.refl _ w).alloc (Nat.le_refl _) _
  have bC := Blk.new w cs 31
  have hC1 := hC.fr (S := nothing) ((Fr.refl _ w).alloc (.cells cs 31)) (fun _ _ _ h => h)
  have c0 := hC.c0
  rw [hk] at c0
  have hlen := bB_len hL
  have HK := Lib.hid hk
  have HHI := Lib.hid hhi
  have kk : kn c.k = true := by rw [hk]; rfl
  have HKN := Lib.hid kk
  obtain ⟨ib, hib, hbz0, hbz1, hbz2⟩ := info_parts info_b
  clear hk kk hhi
  have HF := Lib.hid (show fl c = 0 by simp [fl, HK.out])
  have HBB := Lib.hid (show [] ++ enc c.ps = bB c by simp [bB, HK.out])
  have cc := (bC.cell 0).trans c0
  go_enter Try.func14, Try.ntmps14
  go_wp2_with fail
  refine (rknown_calls _ _ (by decide)).mono ?_
  rintro e wk ⟨rfl, hwk⟩
  rw [hwk]
  clear hwk cc
  generalize w.alloc (.cells cs 31) = w1 at *
  have H := NewP.nil w1.heap.size w1 (Nat.le_refl _)
  obtain ⟨kv, hkv⟩ : ∃ kv : Nat, kv = ([] : List Int).length := ⟨_, rfl⟩
  have HKV := Lib.hid hkv
  clear hkv
  -- parameters behind the bytes ([] : List Int); flags 0, kind 130
  have hCw := hC1.bl H.bel (Nat.le_trans HHI.out (Nat.le_of_lt hbw))
  obtain ⟨A17, p17, e17, h17⟩ := hCw.c17
  have cc := (H.cell bC hbw (i := 17)).trans e17
  have hs17 := H.bel.size
  have l17 := hL.ps
  have CPP := Prm.rput_calls _ _ A17 p17 c.ps _ h17 (Nat.le_trans HHI.out (Nat.le_trans (Nat.le_of_lt hbw) hs17)) hBd.ps (by omega) (by have := hL.pl; omega)
  unfold RPutR at CPP
  have HCPP := Lib.hid CPP
  clear CPP hCw
  go_upto_region 66 with fail
  cases hf : allFit c.ps with
  | false =>
    have HE2 := Lib.hid (show cE c = 43 by unfold cE; rw [if_neg (by rw [HKN.out]; decide), show bE c = 43 by simp [bE, HK.out, hf]]; rfl)
    have HF9 := Lib.hid hf
    clear hf
    go_wp2_with fail
    refine HCPP.out.mono ?_
    rintro e wz ⟨BZ, hz⟩
    rw [HF9.out] at hz
    obtain rfl : e = _ := hz
    have B5 := Bl.trans B0 (Bl.low (Bl.trans H.bel (Bl.low BZ hs17)) (Nat.le_of_lt hbw))
    clear BZ HCPP H cc
    go_wp2
    go_ret2
    unfold PutC
    rw [cO_bad (by rw [HE2.out]; decide), HE2.out]
    exact ⟨B5, none, 0, rfl, OwnB.nil _ _ _⟩
  | true =>
    have HE := Lib.hid (show bE c = 0 by simp [bE, HK.out, hf])
    have HF9 := Lib.hid hf
    clear hf
    go_wp2_with fail
    refine HCPP.out.mono ?_
    rintro e wz ⟨BZ, hz⟩
    rw [HF9.out] at hz
    obtain ⟨Az, cz, rfl, oz⟩ := hz
    have H1 := H.bl BZ
    obtain ⟨Az', cz', ez', -, -, -, rdz⟩ := SlB.of_own oz
    injection ez' with ez1 ez2 ez3
    subst ez1; subst ez3
    have hlnb : (([] : List Int)).length + (enc c.ps).length ≤ 140737488355328 := by simp [b16_len, b32_len]; omega
    have HNH := Lib.hid H1
    clear ez2 oz BZ HCPP H cc l17 hs17
    have H := H1
    clear H1
    go_upto_region 72 with (at_builtin; refine wpList_append_b _ rfl (.tmp 270) (.tmp 271) _ rfl w1.heap.size 5 ib Try.underlying29 hib hbz0 hbz1 hbz2 _ (([] : List Int)) rfl H.own _ _ _ _ _ (enc c.ps) rfl rfl rdz hlnb (Nat.le_trans H.hb H.bel.size) ?_; intro v3 wp hown hg hat; have H3 : NewP w1.heap.size w1 v3 (([] : List Int) ++ enc c.ps) wp := ⟨hown, Bl.trans HNH.out.bel (Bl.of_fr ((Fr.refl _ _).grown (S := fun k => w1.heap.size ≤ k) hg (fun k hk => .inl (OwnB.ge HNH.out.own k hk))) (Nat.le_trans HNH.out.hb HNH.out.bel.size) (fun k hk => hk)), HNH.out.hb⟩; obtain ⟨Ap, kp, pp, rfl, hkp⟩ := H3.shape; have HKV2 := Lib.hid hkp; clear hkp hown hg hat rdz H)
    clear HKV
    have HKV := HKV2
    have H := H3
    clear H3 HKV2 hlnb HNH
    -- H's bytes are the body's; the flags' value is 0 (HF: fl c = it), the kind 130
    rw [HBB.out] at H HKV
    have HKL := HKV.out
    obtain ⟨bs, hbs⟩ : ∃ bs, bB c = bs := ⟨_, rfl⟩
    have HBS := Lib.hid hbs
    rw [hbs] at H HKL hlen
    have hkb : kp ≤ 10000000000 := by omega
    have hwk : IntKind.i64.wrap ((kp : Int) + 4) = (kp : Int) + 4 := IntWalk.i64_in _ (by omega)
    have HKB := Lib.hid HKL
    have hs0 := H.bel.size
    have B5 := Bl.trans B0 (Bl.low H.bel (Nat.le_of_lt hbw))
    by_cases hl : 65535 < bs.length + 4
    · have he := cE_long HKN.out HE.out (by rw [HBS.out]; exact hl)
      have HE2 := Lib.hid he
      have hl2 : decide ((65535 : Int) < (kp : Int) + 4) = true := decide_eq_true (by omega)
      clear he hl HKL hbs HKV hkb
      go_wp2
      go_ret2
      unfold PutC
      rw [cO_bad (by rw [HE2.out]; decide), HE2.out]
      exact ⟨B5, none, 0, rfl, OwnB.nil _ _ _⟩
    · have he := cE_ok HKN.out HE.out (by rw [HBS.out]; exact hl)
      have HE2 := Lib.hid he
      have hl2 : decide ((65535 : Int) < (kp : Int) + 4) = false := decide_eq_false (by omega)
      have hb4 : 0 ≤ (kp : Int) + 4 ∧ (kp : Int) + 4 < 4294967296 := by omega
      have ww := u64w hb4
      have hlb : bs.length + 4 ≤ 65535 := by omega
      clear he hl HKL hbs HKV hkb hlen
      -- flags 0, kind 130, the length (kp : Int) + 4, the world wp
      go_upto_region 75 with fail
      have own2 : OwnB (wp.alloc (.cells #[.int .u8 130, .int .u8 0] 5)) wp.heap.size 5 (.slice (some ⟨wp.heap.size, 0, none⟩) 2 2) [130, 0] := ⟨rfl, .inr ⟨wp.heap.size, 2, #[.int .u8 130, .int .u8 0], rfl, Nat.le_refl _, heap_alloc_new wp _, Nat.le_refl _, (by decide), rfl, rfl⟩⟩
      have hb2 : wp.heap.size ≤ (wp.alloc (.cells #[.int .u8 130, .int .u8 0] 5)).heap.size := by simp
      have H2 : NewP wp.heap.size (wp.alloc (.cells #[.int .u8 130, .int .u8 0] 5)) (.slice (some ⟨wp.heap.size, 0, none⟩) 2 2) [130, 0] (wp.alloc (.cells #[.int .u8 130, .int .u8 0] 5)) := ⟨own2, Below.refl _ _, hb2⟩
      have HB2 : Below wp.heap.size wp (wp.alloc (.cells #[.int .u8 130, .int .u8 0] 5)) := (Below.refl _ wp).alloc (Nat.le_refl _) _
      generalize wp.alloc (.cells #[.int .u8 130, .int .u8 0] 5) = wout at *
      clear own2 hb2
      go_wp2_with fail
      refine (rq_calls _ _ ((kp : Int) + 4) 2 _ H2.zero hb4.1 hb4.2 (by decide) (by simp)).mono ?_
      rintro e ws ⟨As, ks, ps, rfl, hks, HS⟩
      rw [txt_b16] at hks HS
      have H3 := H2.app HS
      have HKS := Lib.hid hks
      have HBWR := Lib.hid HB2
      have HB3 := Bl.trans HB2 H3.bel
      have o3 := OwnB.fr H.own (Bl.fr HB3) (fun k h1 h2 => by have := OwnB.lt H.own k h1; omega)
      obtain ⟨A6, c6, e6, -, -, -, rd⟩ := SlB.of_own o3
      injection e6 with e61 e62 e63
      subst e61; subst e63
      have hln : ([130, 0] ++ b16 ((kp : Int) + 4)).length + bs.length ≤ 140737488355328 := by simp [b16_len]; omega
      clear H2 HS HB2 HB3 hks e62 o3 hl2 ww hwk
      have HN3 := Lib.hid H3
      go_wp2_with (at_builtin; refine wpList_append_b _ rfl (.tmp 309) (.tmp 310) _ rfl wp.heap.size 5 ib Try.underlying29 hib hbz0 hbz1 hbz2 _ ([130, 0] ++ b16 ((kp : Int) + 4)) rfl H3.own _ _ _ _ _ bs rfl HKB.out rd hln (Nat.le_trans H3.hb H3.bel.size) ?_; intro v7 w7 hown hg hat; have o7 : OwnB w7 wp.heap.size 5 v7 ([130, 0] ++ b16 ((kp : Int) + 4) ++ bs) := hown; have HB7 := Lib.hid (Bl.trans HN3.out.bel (Bl.of_fr ((Fr.refl _ ws).grown (S := fun k => wp.heap.size ≤ k) hg (fun k hk => .inl (OwnB.ge HN3.out.own k hk))) (Nat.le_trans HN3.out.hb HN3.out.bel.size) (fun k hk => hk))); obtain ⟨A7, n7, c7, rfl, hn7⟩ : ∃ A n c, v7 = .slice A n c ∧ n = (([130, 0] : List Int) ++ b16 ((kp : Int) + 4) ++ bs).length := (by obtain ⟨A, c, e, -⟩ := OwnB.slice o7; exact ⟨A, _, c, e, rfl⟩); clear hn7; clear hown hg hat rd H3)
      have CPD := rpad_calls _ _ 4 w7 (OwnB.low o7 (Nat.zero_le _)) (by simp [b16_len]; omega) (by decide)
      have hl7 : (([130, 0] : List Int) ++ b16 ((kp : Int) + 4) ++ bs).length = 4 + bs.length := by simp [b16_len]; omega
      rw [hl7] at CPD
      refine CPD.mono ?_
      rintro e w8 ⟨A8, k8, c8, rfl, hk8, HP8⟩
      have HZ : [130, 0] ++ b16 ((kp : Int) + 4) ++ bs ++ List.replicate (padTo (4 + bs.length) 4) 0 = cB c := by
        unfold cB
        rw [HK.out, HF.out, HBS.out, show (((bs.length + 4 : Nat) : Int)) = (kp : Int) + 4 by have h9 := HKB.out; omega, show padTo (4 + bs.length) 4 = (4 - (bs.length + 4) % 4) % 4 by unfold padTo; rw [if_neg (by decide)]; show (4 - (4 + bs.length) % 4) % 4 = _; rw [Nat.add_comm]]
      rw [HZ] at HP8 hk8
      have N8 : NewP wp.heap.size wout (.slice A8 k8 c8) (cB c) w8 := NewP.app ⟨o7, HB7.out, HN3.out.hb⟩ HP8
      have BF2 : Below w.heap.size w w8 := Bl.trans B5 (Bl.low (Bl.trans HBWR.out N8.bel) B5.size)
      have HK8 := Lib.hid hk8
      clear HP8 hk8 HZ CPD o7
      go_wp2
      go_ret2
      unfold PutC
      rw [cO_ok HE2.out, HE2.out]
      have hk8' := HK8.out
      subst hk8'
      exact ⟨BF2, A8, c8, rfl, OwnB.low N8.own B5.size⟩
set_option maxHeartbeats 4000000 in
set_option maxRecDepth 100000 in
theorem rput_6 (lo hi : Nat) (cs : Array Value) (c : Ck) (w : World) (hC : CkV w lo hi cs c) (hhi : hi ≤ w.heap.size) (hBd : CkB c) (hL : CkL c) (hk : c.k = 6) :
    Calls Try.prog 14 #[.agg cs] w (PutC w c) := by
  have hsz := hC.size
  have hbw : w.heap.size < (w.alloc (.cells cs 31)).heap.size := by simp
  have B0 : Below w.heap.size w (w.alloc (.cells cs 31)) := (Below.refl _ w).alloc (Nat.le_refl _) _
  have bC := Blk.new w cs 31
  have hC1 := hC.fr (S := nothing) ((Fr.refl _ w).alloc (.cells cs 31)) (fun _ _ _ h => h)
  have c0 := hC.c0
  rw [hk] at c0
  have hlen := bB_len hL
  have HK := Lib.hid hk
  have HHI := Lib.hid hhi
  have kk : kn c.k = true := by rw [hk]; rfl
  have HKN := Lib.hid kk
  obtain ⟨ib, hib, hbz0, hbz1, hbz2⟩ := info_parts info_b
  clear hk kk hhi
  have HBB := Lib.hid (show [] ++ enc c.ps = bB c by simp [bB, HK.out])
  cases hr : c.r with
  | false =>
    have HF := Lib.hid (show fl c = 0 by simp [fl, HK.out, hr, bt])
    have c4 := hC.c4
    rw [hr] at c4
    clear hr
    have cc := (bC.cell 0).trans c0
    go_enter Try.func14, Try.ntmps14
    go_wp2_with fail
    refine (rknown_calls _ _ (by decide)).mono ?_
    rintro e wk ⟨rfl, hwk⟩
    rw [hwk]
    clear hwk cc
    generalize w.alloc (.cells cs 31) = w1 at *
    have H := NewP.nil w1.heap.size w1 (Nat.le_refl _)
    obtain ⟨kv, hkv⟩ : ∃ kv : Nat, kv = ([] : List Int).length := ⟨_, rfl⟩
    have HKV := Lib.hid hkv
    clear hkv
    have cc4 := (H.cell bC hbw (i := 4)).trans c4
    -- parameters behind the bytes ([] : List Int); flags 0, kind 6
    have hCw := hC1.bl H.bel (Nat.le_trans HHI.out (Nat.le_of_lt hbw))
    obtain ⟨A17, p17, e17, h17⟩ := hCw.c17
    have cc := (H.cell bC hbw (i := 17)).trans e17
    have hs17 := H.bel.size
    have l17 := hL.ps
    have CPP := Prm.rput_calls _ _ A17 p17 c.ps _ h17 (Nat.le_trans HHI.out (Nat.le_trans (Nat.le_of_lt hbw) hs17)) hBd.ps (by omega) (by have := hL.pl; omega)
    unfold RPutR at CPP
    have HCPP := Lib.hid CPP
    clear CPP hCw
    go_upto_region 66 with fail
    cases hf : allFit c.ps with
    | false =>
      have HE2 := Lib.hid (show cE c = 43 by unfold cE; rw [if_neg (by rw [HKN.out]; decide), show bE c = 43 by simp [bE, HK.out, hf]]; rfl)
      have HF9 := Lib.hid hf
      clear hf
      go_wp2_with fail
      refine HCPP.out.mono ?_
      rintro e wz ⟨BZ, hz⟩
      rw [HF9.out] at hz
      obtain rfl : e = _ := hz
      have B5 := Bl.trans B0 (Bl.low (Bl.trans H.bel (Bl.low BZ hs17)) (Nat.le_of_lt hbw))
      clear BZ HCPP H cc
      go_wp2
      go_ret2
      unfold PutC
      rw [cO_bad (by rw [HE2.out]; decide), HE2.out]
      exact ⟨B5, none, 0, rfl, OwnB.nil _ _ _⟩
    | true =>
      have HE := Lib.hid (show bE c = 0 by simp [bE, HK.out, hf])
      have HF9 := Lib.hid hf
      clear hf
      go_wp2_with fail
      refine HCPP.out.mono ?_
      rintro e wz ⟨BZ, hz⟩
      rw [HF9.out] at hz
      obtain ⟨Az, cz, rfl, oz⟩ := hz
      have H1 := H.bl BZ
      obtain ⟨Az', cz', ez', -, -, -, rdz⟩ := SlB.of_own oz
      injection ez' with ez1 ez2 ez3
      subst ez1; subst ez3
      have hlnb : (([] : List Int)).length + (enc c.ps).length ≤ 140737488355328 := by simp [b16_len, b32_len]; omega
      have HNH := Lib.hid H1
      clear ez2 oz BZ HCPP H cc l17 hs17
      have H := H1
      clear H1
      go_upto_region 72 with (at_builtin; refine wpList_append_b _ rfl (.tmp 270) (.tmp 271) _ rfl w1.heap.size 5 ib Try.underlying29 hib hbz0 hbz1 hbz2 _ (([] : List Int)) rfl H.own _ _ _ _ _ (enc c.ps) rfl rfl rdz hlnb (Nat.le_trans H.hb H.bel.size) ?_; intro v3 wp hown hg hat; have H3 : NewP w1.heap.size w1 v3 (([] : List Int) ++ enc c.ps) wp := ⟨hown, Bl.trans HNH.out.bel (Bl.of_fr ((Fr.refl _ _).grown (S := fun k => w1.heap.size ≤ k) hg (fun k hk => .inl (OwnB.ge HNH.out.own k hk))) (Nat.le_trans HNH.out.hb HNH.out.bel.size) (fun k hk => hk)), HNH.out.hb⟩; obtain ⟨Ap, kp, pp, rfl, hkp⟩ := H3.shape; have HKV2 := Lib.hid hkp; clear hkp hown hg hat rdz H)
      clear HKV
      have HKV := HKV2
      have H := H3
      clear H3 HKV2 hlnb HNH
      -- H's bytes are the body's; the flags' value is 0 (HF: fl c = it), the kind 6
      rw [HBB.out] at H HKV
      have HKL := HKV.out
      obtain ⟨bs, hbs⟩ : ∃ bs, bB c = bs := ⟨_, rfl⟩
      have HBS := Lib.hid hbs
      rw [hbs] at H HKL hlen
      have hkb : kp ≤ 10000000000 := by omega
      have hwk : IntKind.i64.wrap ((kp : Int) + 4) = (kp : Int) + 4 := IntWalk.i64_in _ (by omega)
      have HKB := Lib.hid HKL
      have hs0 := H.bel.size
      have B5 := Bl.trans B0 (Bl.low H.bel (Nat.le_of_lt hbw))
      by_cases hl : 65535 < bs.length + 4
      · have he := cE_long HKN.out HE.out (by rw [HBS.out]; exact hl)
        have HE2 := Lib.hid he
        have hl2 : decide ((65535 : Int) < (kp : Int) + 4) = true := decide_eq_true (by omega)
        clear he hl HKL hbs HKV hkb
        go_wp2
        go_ret2
        unfold PutC
        rw [cO_bad (by rw [HE2.out]; decide), HE2.out]
        exact ⟨B5, none, 0, rfl, OwnB.nil _ _ _⟩
      · have he := cE_ok HKN.out HE.out (by rw [HBS.out]; exact hl)
        have HE2 := Lib.hid he
        have hl2 : decide ((65535 : Int) < (kp : Int) + 4) = false := decide_eq_false (by omega)
        have hb4 : 0 ≤ (kp : Int) + 4 ∧ (kp : Int) + 4 < 4294967296 := by omega
        have ww := u64w hb4
        have hlb : bs.length + 4 ≤ 65535 := by omega
        clear he hl HKL hbs HKV hkb hlen
        -- flags 0, kind 6, the length (kp : Int) + 4, the world wp
        go_upto_region 75 with fail
        have own2 : OwnB (wp.alloc (.cells #[.int .u8 6, .int .u8 0] 5)) wp.heap.size 5 (.slice (some ⟨wp.heap.size, 0, none⟩) 2 2) [6, 0] := ⟨rfl, .inr ⟨wp.heap.size, 2, #[.int .u8 6, .int .u8 0], rfl, Nat.le_refl _, heap_alloc_new wp _, Nat.le_refl _, (by decide), rfl, rfl⟩⟩
        have hb2 : wp.heap.size ≤ (wp.alloc (.cells #[.int .u8 6, .int .u8 0] 5)).heap.size := by simp
        have H2 : NewP wp.heap.size (wp.alloc (.cells #[.int .u8 6, .int .u8 0] 5)) (.slice (some ⟨wp.heap.size, 0, none⟩) 2 2) [6, 0] (wp.alloc (.cells #[.int .u8 6, .int .u8 0] 5)) := ⟨own2, Below.refl _ _, hb2⟩
        have HB2 : Below wp.heap.size wp (wp.alloc (.cells #[.int .u8 6, .int .u8 0] 5)) := (Below.refl _ wp).alloc (Nat.le_refl _) _
        generalize wp.alloc (.cells #[.int .u8 6, .int .u8 0] 5) = wout at *
        clear own2 hb2
        go_wp2_with fail
        refine (rq_calls _ _ ((kp : Int) + 4) 2 _ H2.zero hb4.1 hb4.2 (by decide) (by simp)).mono ?_
        rintro e ws ⟨As, ks, ps, rfl, hks, HS⟩
        rw [txt_b16] at hks HS
        have H3 := H2.app HS
        have HKS := Lib.hid hks
        have HBWR := Lib.hid HB2
        have HB3 := Bl.trans HB2 H3.bel
        have o3 := OwnB.fr H.own (Bl.fr HB3) (fun k h1 h2 => by have := OwnB.lt H.own k h1; omega)
        obtain ⟨A6, c6, e6, -, -, -, rd⟩ := SlB.of_own o3
        injection e6 with e61 e62 e63
        subst e61; subst e63
        have hln : ([6, 0] ++ b16 ((kp : Int) + 4)).length + bs.length ≤ 140737488355328 := by simp [b16_len]; omega
        clear H2 HS HB2 HB3 hks e62 o3 hl2 ww hwk
        have HN3 := Lib.hid H3
        go_wp2_with (at_builtin; refine wpList_append_b _ rfl (.tmp 309) (.tmp 310) _ rfl wp.heap.size 5 ib Try.underlying29 hib hbz0 hbz1 hbz2 _ ([6, 0] ++ b16 ((kp : Int) + 4)) rfl H3.own _ _ _ _ _ bs rfl HKB.out rd hln (Nat.le_trans H3.hb H3.bel.size) ?_; intro v7 w7 hown hg hat; have o7 : OwnB w7 wp.heap.size 5 v7 ([6, 0] ++ b16 ((kp : Int) + 4) ++ bs) := hown; have HB7 := Lib.hid (Bl.trans HN3.out.bel (Bl.of_fr ((Fr.refl _ ws).grown (S := fun k => wp.heap.size ≤ k) hg (fun k hk => .inl (OwnB.ge HN3.out.own k hk))) (Nat.le_trans HN3.out.hb HN3.out.bel.size) (fun k hk => hk))); obtain ⟨A7, n7, c7, rfl, hn7⟩ : ∃ A n c, v7 = .slice A n c ∧ n = (([6, 0] : List Int) ++ b16 ((kp : Int) + 4) ++ bs).length := (by obtain ⟨A, c, e, -⟩ := OwnB.slice o7; exact ⟨A, _, c, e, rfl⟩); clear hn7; clear hown hg hat rd H3)
        have CPD := rpad_calls _ _ 4 w7 (OwnB.low o7 (Nat.zero_le _)) (by simp [b16_len]; omega) (by decide)
        have hl7 : (([6, 0] : List Int) ++ b16 ((kp : Int) + 4) ++ bs).length = 4 + bs.length := by simp [b16_len]; omega
        rw [hl7] at CPD
        refine CPD.mono ?_
        rintro e w8 ⟨A8, k8, c8, rfl, hk8, HP8⟩
        have HZ : [6, 0] ++ b16 ((kp : Int) + 4) ++ bs ++ List.replicate (padTo (4 + bs.length) 4) 0 = cB c := by
          unfold cB
          rw [HK.out, HF.out, HBS.out, show (((bs.length + 4 : Nat) : Int)) = (kp : Int) + 4 by have h9 := HKB.out; omega, show padTo (4 + bs.length) 4 = (4 - (bs.length + 4) % 4) % 4 by unfold padTo; rw [if_neg (by decide)]; show (4 - (4 + bs.length) % 4) % 4 = _; rw [Nat.add_comm]]
        rw [HZ] at HP8 hk8
        have N8 : NewP wp.heap.size wout (.slice A8 k8 c8) (cB c) w8 := NewP.app ⟨o7, HB7.out, HN3.out.hb⟩ HP8
        have BF2 : Below w.heap.size w w8 := Bl.trans B5 (Bl.low (Bl.trans HBWR.out N8.bel) B5.size)
        have HK8 := Lib.hid hk8
        clear HP8 hk8 HZ CPD o7
        go_wp2
        go_ret2
        unfold PutC
        rw [cO_ok HE2.out, HE2.out]
        have hk8' := HK8.out
        subst hk8'
        exact ⟨BF2, A8, c8, rfl, OwnB.low N8.own B5.size⟩
  | true =>
    have HF := Lib.hid (show fl c = 1 by simp [fl, HK.out, hr, bt])
    have c4 := hC.c4
    rw [hr] at c4
    clear hr
    have cc := (bC.cell 0).trans c0
    go_enter Try.func14, Try.ntmps14
    go_wp2_with fail
    refine (rknown_calls _ _ (by decide)).mono ?_
    rintro e wk ⟨rfl, hwk⟩
    rw [hwk]
    clear hwk cc
    generalize w.alloc (.cells cs 31) = w1 at *
    have H := NewP.nil w1.heap.size w1 (Nat.le_refl _)
    obtain ⟨kv, hkv⟩ : ∃ kv : Nat, kv = ([] : List Int).length := ⟨_, rfl⟩
    have HKV := Lib.hid hkv
    clear hkv
    have cc4 := (H.cell bC hbw (i := 4)).trans c4
    -- parameters behind the bytes ([] : List Int); flags 1, kind 6
    have hCw := hC1.bl H.bel (Nat.le_trans HHI.out (Nat.le_of_lt hbw))
    obtain ⟨A17, p17, e17, h17⟩ := hCw.c17
    have cc := (H.cell bC hbw (i := 17)).trans e17
    have hs17 := H.bel.size
    have l17 := hL.ps
    have CPP := Prm.rput_calls _ _ A17 p17 c.ps _ h17 (Nat.le_trans HHI.out (Nat.le_trans (Nat.le_of_lt hbw) hs17)) hBd.ps (by omega) (by have := hL.pl; omega)
    unfold RPutR at CPP
    have HCPP := Lib.hid CPP
    clear CPP hCw
    go_upto_region 66 with fail
    cases hf : allFit c.ps with
    | false =>
      have HE2 := Lib.hid (show cE c = 43 by unfold cE; rw [if_neg (by rw [HKN.out]; decide), show bE c = 43 by simp [bE, HK.out, hf]]; rfl)
      have HF9 := Lib.hid hf
      clear hf
      go_wp2_with fail
      refine HCPP.out.mono ?_
      rintro e wz ⟨BZ, hz⟩
      rw [HF9.out] at hz
      obtain rfl : e = _ := hz
      have B5 := Bl.trans B0 (Bl.low (Bl.trans H.bel (Bl.low BZ hs17)) (Nat.le_of_lt hbw))
      clear BZ HCPP H cc
      go_wp2
      go_ret2
      unfold PutC
      rw [cO_bad (by rw [HE2.out]; decide), HE2.out]
      exact ⟨B5, none, 0, rfl, OwnB.nil _ _ _⟩
    | true =>
      have HE := Lib.hid (show bE c = 0 by simp [bE, HK.out, hf])
      have HF9 := Lib.hid hf
      clear hf
      go_wp2_with fail
      refine HCPP.out.mono ?_
      rintro e wz ⟨BZ, hz⟩
      rw [HF9.out] at hz
      obtain ⟨Az, cz, rfl, oz⟩ := hz
      have H1 := H.bl BZ
      obtain ⟨Az', cz', ez', -, -, -, rdz⟩ := SlB.of_own oz
      injection ez' with ez1 ez2 ez3
      subst ez1; subst ez3
      have hlnb : (([] : List Int)).length + (enc c.ps).length ≤ 140737488355328 := by simp [b16_len, b32_len]; omega
      have HNH := Lib.hid H1
      clear ez2 oz BZ HCPP H cc l17 hs17
      have H := H1
      clear H1
      go_upto_region 72 with (at_builtin; refine wpList_append_b _ rfl (.tmp 270) (.tmp 271) _ rfl w1.heap.size 5 ib Try.underlying29 hib hbz0 hbz1 hbz2 _ (([] : List Int)) rfl H.own _ _ _ _ _ (enc c.ps) rfl rfl rdz hlnb (Nat.le_trans H.hb H.bel.size) ?_; intro v3 wp hown hg hat; have H3 : NewP w1.heap.size w1 v3 (([] : List Int) ++ enc c.ps) wp := ⟨hown, Bl.trans HNH.out.bel (Bl.of_fr ((Fr.refl _ _).grown (S := fun k => w1.heap.size ≤ k) hg (fun k hk => .inl (OwnB.ge HNH.out.own k hk))) (Nat.le_trans HNH.out.hb HNH.out.bel.size) (fun k hk => hk)), HNH.out.hb⟩; obtain ⟨Ap, kp, pp, rfl, hkp⟩ := H3.shape; have HKV2 := Lib.hid hkp; clear hkp hown hg hat rdz H)
      clear HKV
      have HKV := HKV2
      have H := H3
      clear H3 HKV2 hlnb HNH
      -- H's bytes are the body's; the flags' value is 1 (HF: fl c = it), the kind 6
      rw [HBB.out] at H HKV
      have HKL := HKV.out
      obtain ⟨bs, hbs⟩ : ∃ bs, bB c = bs := ⟨_, rfl⟩
      have HBS := Lib.hid hbs
      rw [hbs] at H HKL hlen
      have hkb : kp ≤ 10000000000 := by omega
      have hwk : IntKind.i64.wrap ((kp : Int) + 4) = (kp : Int) + 4 := IntWalk.i64_in _ (by omega)
      have HKB := Lib.hid HKL
      have hs0 := H.bel.size
      have B5 := Bl.trans B0 (Bl.low H.bel (Nat.le_of_lt hbw))
      by_cases hl : 65535 < bs.length + 4
      · have he := cE_long HKN.out HE.out (by rw [HBS.out]; exact hl)
        have HE2 := Lib.hid he
        have hl2 : decide ((65535 : Int) < (kp : Int) + 4) = true := decide_eq_true (by omega)
        clear he hl HKL hbs HKV hkb
        go_wp2
        go_ret2
        unfold PutC
        rw [cO_bad (by rw [HE2.out]; decide), HE2.out]
        exact ⟨B5, none, 0, rfl, OwnB.nil _ _ _⟩
      · have he := cE_ok HKN.out HE.out (by rw [HBS.out]; exact hl)
        have HE2 := Lib.hid he
        have hl2 : decide ((65535 : Int) < (kp : Int) + 4) = false := decide_eq_false (by omega)
        have hb4 : 0 ≤ (kp : Int) + 4 ∧ (kp : Int) + 4 < 4294967296 := by omega
        have ww := u64w hb4
        have hlb : bs.length + 4 ≤ 65535 := by omega
        clear he hl HKL hbs HKV hkb hlen
        -- flags 1, kind 6, the length (kp : Int) + 4, the world wp
        go_upto_region 75 with fail
        have own2 : OwnB (wp.alloc (.cells #[.int .u8 6, .int .u8 1] 5)) wp.heap.size 5 (.slice (some ⟨wp.heap.size, 0, none⟩) 2 2) [6, 1] := ⟨rfl, .inr ⟨wp.heap.size, 2, #[.int .u8 6, .int .u8 1], rfl, Nat.le_refl _, heap_alloc_new wp _, Nat.le_refl _, (by decide), rfl, rfl⟩⟩
        have hb2 : wp.heap.size ≤ (wp.alloc (.cells #[.int .u8 6, .int .u8 1] 5)).heap.size := by simp
        have H2 : NewP wp.heap.size (wp.alloc (.cells #[.int .u8 6, .int .u8 1] 5)) (.slice (some ⟨wp.heap.size, 0, none⟩) 2 2) [6, 1] (wp.alloc (.cells #[.int .u8 6, .int .u8 1] 5)) := ⟨own2, Below.refl _ _, hb2⟩
        have HB2 : Below wp.heap.size wp (wp.alloc (.cells #[.int .u8 6, .int .u8 1] 5)) := (Below.refl _ wp).alloc (Nat.le_refl _) _
        generalize wp.alloc (.cells #[.int .u8 6, .int .u8 1] 5) = wout at *
        clear own2 hb2
        go_wp2_with fail
        refine (rq_calls _ _ ((kp : Int) + 4) 2 _ H2.zero hb4.1 hb4.2 (by decide) (by simp)).mono ?_
        rintro e ws ⟨As, ks, ps, rfl, hks, HS⟩
        rw [txt_b16] at hks HS
        have H3 := H2.app HS
        have HKS := Lib.hid hks
        have HBWR := Lib.hid HB2
        have HB3 := Bl.trans HB2 H3.bel
        have o3 := OwnB.fr H.own (Bl.fr HB3) (fun k h1 h2 => by have := OwnB.lt H.own k h1; omega)
        obtain ⟨A6, c6, e6, -, -, -, rd⟩ := SlB.of_own o3
        injection e6 with e61 e62 e63
        subst e61; subst e63
        have hln : ([6, 1] ++ b16 ((kp : Int) + 4)).length + bs.length ≤ 140737488355328 := by simp [b16_len]; omega
        clear H2 HS HB2 HB3 hks e62 o3 hl2 ww hwk
        have HN3 := Lib.hid H3
        go_wp2_with (at_builtin; refine wpList_append_b _ rfl (.tmp 309) (.tmp 310) _ rfl wp.heap.size 5 ib Try.underlying29 hib hbz0 hbz1 hbz2 _ ([6, 1] ++ b16 ((kp : Int) + 4)) rfl H3.own _ _ _ _ _ bs rfl HKB.out rd hln (Nat.le_trans H3.hb H3.bel.size) ?_; intro v7 w7 hown hg hat; have o7 : OwnB w7 wp.heap.size 5 v7 ([6, 1] ++ b16 ((kp : Int) + 4) ++ bs) := hown; have HB7 := Lib.hid (Bl.trans HN3.out.bel (Bl.of_fr ((Fr.refl _ ws).grown (S := fun k => wp.heap.size ≤ k) hg (fun k hk => .inl (OwnB.ge HN3.out.own k hk))) (Nat.le_trans HN3.out.hb HN3.out.bel.size) (fun k hk => hk))); obtain ⟨A7, n7, c7, rfl, hn7⟩ : ∃ A n c, v7 = .slice A n c ∧ n = (([6, 1] : List Int) ++ b16 ((kp : Int) + 4) ++ bs).length := (by obtain ⟨A, c, e, -⟩ := OwnB.slice o7; exact ⟨A, _, c, e, rfl⟩); clear hn7; clear hown hg hat rd H3)
        have CPD := rpad_calls _ _ 4 w7 (OwnB.low o7 (Nat.zero_le _)) (by simp [b16_len]; omega) (by decide)
        have hl7 : (([6, 1] : List Int) ++ b16 ((kp : Int) + 4) ++ bs).length = 4 + bs.length := by simp [b16_len]; omega
        rw [hl7] at CPD
        refine CPD.mono ?_
        rintro e w8 ⟨A8, k8, c8, rfl, hk8, HP8⟩
        have HZ : [6, 1] ++ b16 ((kp : Int) + 4) ++ bs ++ List.replicate (padTo (4 + bs.length) 4) 0 = cB c := by
          unfold cB
          rw [HK.out, HF.out, HBS.out, show (((bs.length + 4 : Nat) : Int)) = (kp : Int) + 4 by have h9 := HKB.out; omega, show padTo (4 + bs.length) 4 = (4 - (bs.length + 4) % 4) % 4 by unfold padTo; rw [if_neg (by decide)]; show (4 - (4 + bs.length) % 4) % 4 = _; rw [Nat.add_comm]]
        rw [HZ] at HP8 hk8
        have N8 : NewP wp.heap.size wout (.slice A8 k8 c8) (cB c) w8 := NewP.app ⟨o7, HB7.out, HN3.out.hb⟩ HP8
        have BF2 : Below w.heap.size w w8 := Bl.trans B5 (Bl.low (Bl.trans HBWR.out N8.bel) B5.size)
        have HK8 := Lib.hid hk8
        clear HP8 hk8 HZ CPD o7
        go_wp2
        go_ret2
        unfold PutC
        rw [cO_ok HE2.out, HE2.out]
        have hk8' := HK8.out
        subst hk8'
        exact ⟨BF2, A8, c8, rfl, OwnB.low N8.own B5.size⟩
end Go.Proofs.Ytaifihoheieneaa.Chk
namespace Go.Proofs.Ytaifihoheieneaa.Chk
open Go.RowKit Go.Proofs.Ytaifihoheieneaa.Mem Go.Proofs.Ytaifihoheieneaa.Octet Go.Proofs.Ytaifihoheieneaa.Prm
set_option linter.unusedVariables false
set_option linter.unusedSimpArgs false
set_option maxHeartbeats 4000000 in
set_option maxRecDepth 100000 in
theorem rput_1 (lo hi : Nat) (cs : Array Value) (c : Ck) (w : World) (hC : CkV w lo hi cs c) (hhi : hi ≤ w.heap.size) (hBd : CkB c) (hL : CkL c) (hk : c.k = 1) :
    Calls Try.prog 14 #[.agg cs] w (PutC w c) := by
  have hsz := hC.size
  have hbw : w.heap.size < (w.alloc (.cells cs 31)).heap.size := by simp
  have B0 : Below w.heap.size w (w.alloc (.cells cs 31)) := (Below.refl _ w).alloc (Nat.le_refl _) _
  have bC := Blk.new w cs 31
  have hC1 := hC.fr (S := nothing) ((Fr.refl _ w).alloc (.cells cs 31)) (fun _ _ _ h => h)
  have c0 := hC.c0
  rw [hk] at c0
  have hlen := bB_len hL
  have HK := Lib.hid hk
  have HHI := Lib.hid hhi
  have kk : kn c.k = true := by rw [hk]; rfl
  have HKN := Lib.hid kk
  obtain ⟨ib, hib, hbz0, hbz1, hbz2⟩ := info_parts info_b
  clear hk kk hhi
  have HF := Lib.hid (show fl c = 0 by simp [fl, HK.out])
  have HBB := Lib.hid (show [] ++ b32 c.tag ++ b32 c.win ++ b16 c.out ++ b16 c.inn ++ b32 c.tsn ++ enc c.ps = bB c by simp [bB, HK.out])
  have cc := (bC.cell 0).trans c0
  go_enter Try.func14, Try.ntmps14
  go_wp2_with fail
  refine (rknown_calls _ _ (by decide)).mono ?_
  rintro e wk ⟨rfl, hwk⟩
  rw [hwk]
  clear hwk cc
  generalize w.alloc (.cells cs 31) = w1 at *
  have H := NewP.nil w1.heap.size w1 (Nat.le_refl _)
  obtain ⟨kv, hkv⟩ : ∃ kv : Nat, kv = ([] : List Int).length := ⟨_, rfl⟩
  have HKV := Lib.hid hkv
  clear hkv
  have cc := (H.cell bC hbw (i := 10)).trans hC.c10
  have ww := u64w hBd.tag
  go_wp2_with fail
  -- c.tag the number; 4 how many bytes; hBd.tag its bounds; txt_b32: txt's name
  refine (rq_calls _ _ (c.tag) 4 _ H.zero (hBd.tag).1 (hBd.tag).2 (by decide) (by simp [b16_len, b32_len]; try omega)).mono ?_
  rintro e wp ⟨Ap, kp, pp, rfl, hkp, HP⟩
  rw [txt_b32] at hkp HP
  have H' := H.app HP
  have HKV' := Lib.hid hkp
  clear H HKV HP hkp
  have H := H'
  have HKV := HKV'
  clear H' HKV'
  clear cc ww
  have cc := (H.cell bC hbw (i := 11)).trans hC.c11
  have ww := u64w hBd.win
  go_wp2_with fail
  -- c.win the number; 4 how many bytes; hBd.win its bounds; txt_b32: txt's name
  refine (rq_calls _ _ (c.win) 4 _ H.zero (hBd.win).1 (hBd.win).2 (by decide) (by simp [b16_len, b32_len]; try omega)).mono ?_
  rintro e wp ⟨Ap, kp, pp, rfl, hkp, HP⟩
  rw [txt_b32] at hkp HP
  have H' := H.app HP
  have HKV' := Lib.hid hkp
  clear H HKV HP hkp
  have H := H'
  have HKV := HKV'
  clear H' HKV'
  clear cc ww
  have cc := (H.cell bC hbw (i := 12)).trans hC.c12
  have ww := u64w (r16 hBd.out)
  go_wp2_with fail
  -- c.out the number; 2 how many bytes; (r16 hBd.out) its bounds; txt_b16: txt's name
  refine (rq_calls _ _ (c.out) 2 _ H.zero ((r16 hBd.out)).1 ((r16 hBd.out)).2 (by decide) (by simp [b16_len, b32_len]; try omega)).mono ?_
  rintro e wp ⟨Ap, kp, pp, rfl, hkp, HP⟩
  rw [txt_b16] at hkp HP
  have H' := H.app HP
  have HKV' := Lib.hid hkp
  clear H HKV HP hkp
  have H := H'
  have HKV := HKV'
  clear H' HKV'
  clear cc ww
  have cc := (H.cell bC hbw (i := 13)).trans hC.c13
  have ww := u64w (r16 hBd.inn)
  go_wp2_with fail
  -- c.inn the number; 2 how many bytes; (r16 hBd.inn) its bounds; txt_b16: txt's name
  refine (rq_calls _ _ (c.inn) 2 _ H.zero ((r16 hBd.inn)).1 ((r16 hBd.inn)).2 (by decide) (by simp [b16_len, b32_len]; try omega)).mono ?_
  rintro e wp ⟨Ap, kp, pp, rfl, hkp, HP⟩
  rw [txt_b16] at hkp HP
  have H' := H.app HP
  have HKV' := Lib.hid hkp
  clear H HKV HP hkp
  have H := H'
  have HKV := HKV'
  clear H' HKV'
  clear cc ww
  have cc := (H.cell bC hbw (i := 5)).trans hC.c5
  have ww := u64w hBd.tsn
  go_wp2_with fail
  -- c.tsn the number; 4 how many bytes; hBd.tsn its bounds; txt_b32: txt's name
  refine (rq_calls _ _ (c.tsn) 4 _ H.zero (hBd.tsn).1 (hBd.tsn).2 (by decide) (by simp [b16_len, b32_len]; try omega)).mono ?_
  rintro e wp ⟨Ap, kp, pp, rfl, hkp, HP⟩
  rw [txt_b32] at hkp HP
  have H' := H.app HP
  have HKV' := Lib.hid hkp
  clear H HKV HP hkp
  have H := H'
  have HKV := HKV'
  clear H' HKV'
  clear cc ww
  -- parameters behind the bytes [] ++ b32 c.tag ++ b32 c.win ++ b16 c.out ++ b16 c.inn ++ b32 c.tsn; flags 0, kind 1
  have hCw := hC1.bl H.bel (Nat.le_trans HHI.out (Nat.le_of_lt hbw))
  obtain ⟨A17, p17, e17, h17⟩ := hCw.c17
  have cc := (H.cell bC hbw (i := 17)).trans e17
  have hs17 := H.bel.size
  have l17 := hL.ps
  have CPP := Prm.rput_calls _ _ A17 p17 c.ps _ h17 (Nat.le_trans HHI.out (Nat.le_trans (Nat.le_of_lt hbw) hs17)) hBd.ps (by omega) (by have := hL.pl; omega)
  unfold RPutR at CPP
  have HCPP := Lib.hid CPP
  clear CPP hCw
  go_upto_region 66 with fail
  cases hf : allFit c.ps with
  | false =>
    have HE2 := Lib.hid (show cE c = 43 by unfold cE; rw [if_neg (by rw [HKN.out]; decide), show bE c = 43 by simp [bE, HK.out, hf]]; rfl)
    have HF9 := Lib.hid hf
    clear hf
    go_wp2_with fail
    refine HCPP.out.mono ?_
    rintro e wz ⟨BZ, hz⟩
    rw [HF9.out] at hz
    obtain rfl : e = _ := hz
    have B5 := Bl.trans B0 (Bl.low (Bl.trans H.bel (Bl.low BZ hs17)) (Nat.le_of_lt hbw))
    clear BZ HCPP H cc
    go_wp2
    go_ret2
    unfold PutC
    rw [cO_bad (by rw [HE2.out]; decide), HE2.out]
    exact ⟨B5, none, 0, rfl, OwnB.nil _ _ _⟩
  | true =>
    have HE := Lib.hid (show bE c = 0 by simp [bE, HK.out, hf])
    have HF9 := Lib.hid hf
    clear hf
    go_wp2_with fail
    refine HCPP.out.mono ?_
    rintro e wz ⟨BZ, hz⟩
    rw [HF9.out] at hz
    obtain ⟨Az, cz, rfl, oz⟩ := hz
    have H1 := H.bl BZ
    obtain ⟨Az', cz', ez', -, -, -, rdz⟩ := SlB.of_own oz
    injection ez' with ez1 ez2 ez3
    subst ez1; subst ez3
    have hlnb : ([] ++ b32 c.tag ++ b32 c.win ++ b16 c.out ++ b16 c.inn ++ b32 c.tsn).length + (enc c.ps).length ≤ 140737488355328 := by simp [b16_len, b32_len]; omega
    have HNH := Lib.hid H1
    clear ez2 oz BZ HCPP H cc l17 hs17
    have H := H1
    clear H1
    go_upto_region 72 with (at_builtin; refine wpList_append_b _ rfl (.tmp 270) (.tmp 271) _ rfl w1.heap.size 5 ib Try.underlying29 hib hbz0 hbz1 hbz2 _ ([] ++ b32 c.tag ++ b32 c.win ++ b16 c.out ++ b16 c.inn ++ b32 c.tsn) rfl H.own _ _ _ _ _ (enc c.ps) rfl rfl rdz hlnb (Nat.le_trans H.hb H.bel.size) ?_; intro v3 wp hown hg hat; have H3 : NewP w1.heap.size w1 v3 ([] ++ b32 c.tag ++ b32 c.win ++ b16 c.out ++ b16 c.inn ++ b32 c.tsn ++ enc c.ps) wp := ⟨hown, Bl.trans HNH.out.bel (Bl.of_fr ((Fr.refl _ _).grown (S := fun k => w1.heap.size ≤ k) hg (fun k hk => .inl (OwnB.ge HNH.out.own k hk))) (Nat.le_trans HNH.out.hb HNH.out.bel.size) (fun k hk => hk)), HNH.out.hb⟩; obtain ⟨Ap, kp, pp, rfl, hkp⟩ := H3.shape; have HKV2 := Lib.hid hkp; clear hkp hown hg hat rdz H)
    clear HKV
    have HKV := HKV2
    have H := H3
    clear H3 HKV2 hlnb HNH
    -- H's bytes are the body's; the flags' value is 0 (HF: fl c = it), the kind 1
    rw [HBB.out] at H HKV
    have HKL := HKV.out
    obtain ⟨bs, hbs⟩ : ∃ bs, bB c = bs := ⟨_, rfl⟩
    have HBS := Lib.hid hbs
    rw [hbs] at H HKL hlen
    have hkb : kp ≤ 10000000000 := by omega
    have hwk : IntKind.i64.wrap ((kp : Int) + 4) = (kp : Int) + 4 := IntWalk.i64_in _ (by omega)
    have HKB := Lib.hid HKL
    have hs0 := H.bel.size
    have B5 := Bl.trans B0 (Bl.low H.bel (Nat.le_of_lt hbw))
    by_cases hl : 65535 < bs.length + 4
    · have he := cE_long HKN.out HE.out (by rw [HBS.out]; exact hl)
      have HE2 := Lib.hid he
      have hl2 : decide ((65535 : Int) < (kp : Int) + 4) = true := decide_eq_true (by omega)
      clear he hl HKL hbs HKV hkb
      go_wp2
      go_ret2
      unfold PutC
      rw [cO_bad (by rw [HE2.out]; decide), HE2.out]
      exact ⟨B5, none, 0, rfl, OwnB.nil _ _ _⟩
    · have he := cE_ok HKN.out HE.out (by rw [HBS.out]; exact hl)
      have HE2 := Lib.hid he
      have hl2 : decide ((65535 : Int) < (kp : Int) + 4) = false := decide_eq_false (by omega)
      have hb4 : 0 ≤ (kp : Int) + 4 ∧ (kp : Int) + 4 < 4294967296 := by omega
      have ww := u64w hb4
      have hlb : bs.length + 4 ≤ 65535 := by omega
      clear he hl HKL hbs HKV hkb hlen
      -- flags 0, kind 1, the length (kp : Int) + 4, the world wp
      go_upto_region 75 with fail
      have own2 : OwnB (wp.alloc (.cells #[.int .u8 1, .int .u8 0] 5)) wp.heap.size 5 (.slice (some ⟨wp.heap.size, 0, none⟩) 2 2) [1, 0] := ⟨rfl, .inr ⟨wp.heap.size, 2, #[.int .u8 1, .int .u8 0], rfl, Nat.le_refl _, heap_alloc_new wp _, Nat.le_refl _, (by decide), rfl, rfl⟩⟩
      have hb2 : wp.heap.size ≤ (wp.alloc (.cells #[.int .u8 1, .int .u8 0] 5)).heap.size := by simp
      have H2 : NewP wp.heap.size (wp.alloc (.cells #[.int .u8 1, .int .u8 0] 5)) (.slice (some ⟨wp.heap.size, 0, none⟩) 2 2) [1, 0] (wp.alloc (.cells #[.int .u8 1, .int .u8 0] 5)) := ⟨own2, Below.refl _ _, hb2⟩
      have HB2 : Below wp.heap.size wp (wp.alloc (.cells #[.int .u8 1, .int .u8 0] 5)) := (Below.refl _ wp).alloc (Nat.le_refl _) _
      generalize wp.alloc (.cells #[.int .u8 1, .int .u8 0] 5) = wout at *
      clear own2 hb2
      go_wp2_with fail
      refine (rq_calls _ _ ((kp : Int) + 4) 2 _ H2.zero hb4.1 hb4.2 (by decide) (by simp)).mono ?_
      rintro e ws ⟨As, ks, ps, rfl, hks, HS⟩
      rw [txt_b16] at hks HS
      have H3 := H2.app HS
      have HKS := Lib.hid hks
      have HBWR := Lib.hid HB2
      have HB3 := Bl.trans HB2 H3.bel
      have o3 := OwnB.fr H.own (Bl.fr HB3) (fun k h1 h2 => by have := OwnB.lt H.own k h1; omega)
      obtain ⟨A6, c6, e6, -, -, -, rd⟩ := SlB.of_own o3
      injection e6 with e61 e62 e63
      subst e61; subst e63
      have hln : ([1, 0] ++ b16 ((kp : Int) + 4)).length + bs.length ≤ 140737488355328 := by simp [b16_len]; omega
      clear H2 HS HB2 HB3 hks e62 o3 hl2 ww hwk
      have HN3 := Lib.hid H3
      go_wp2_with (at_builtin; refine wpList_append_b _ rfl (.tmp 309) (.tmp 310) _ rfl wp.heap.size 5 ib Try.underlying29 hib hbz0 hbz1 hbz2 _ ([1, 0] ++ b16 ((kp : Int) + 4)) rfl H3.own _ _ _ _ _ bs rfl HKB.out rd hln (Nat.le_trans H3.hb H3.bel.size) ?_; intro v7 w7 hown hg hat; have o7 : OwnB w7 wp.heap.size 5 v7 ([1, 0] ++ b16 ((kp : Int) + 4) ++ bs) := hown; have HB7 := Lib.hid (Bl.trans HN3.out.bel (Bl.of_fr ((Fr.refl _ ws).grown (S := fun k => wp.heap.size ≤ k) hg (fun k hk => .inl (OwnB.ge HN3.out.own k hk))) (Nat.le_trans HN3.out.hb HN3.out.bel.size) (fun k hk => hk))); obtain ⟨A7, n7, c7, rfl, hn7⟩ : ∃ A n c, v7 = .slice A n c ∧ n = (([1, 0] : List Int) ++ b16 ((kp : Int) + 4) ++ bs).length := (by obtain ⟨A, c, e, -⟩ := OwnB.slice o7; exact ⟨A, _, c, e, rfl⟩); clear hn7; clear hown hg hat rd H3)
      have CPD := rpad_calls _ _ 4 w7 (OwnB.low o7 (Nat.zero_le _)) (by simp [b16_len]; omega) (by decide)
      have hl7 : (([1, 0] : List Int) ++ b16 ((kp : Int) + 4) ++ bs).length = 4 + bs.length := by simp [b16_len]; omega
      rw [hl7] at CPD
      refine CPD.mono ?_
      rintro e w8 ⟨A8, k8, c8, rfl, hk8, HP8⟩
      have HZ : [1, 0] ++ b16 ((kp : Int) + 4) ++ bs ++ List.replicate (padTo (4 + bs.length) 4) 0 = cB c := by
        unfold cB
        rw [HK.out, HF.out, HBS.out, show (((bs.length + 4 : Nat) : Int)) = (kp : Int) + 4 by have h9 := HKB.out; omega, show padTo (4 + bs.length) 4 = (4 - (bs.length + 4) % 4) % 4 by unfold padTo; rw [if_neg (by decide)]; show (4 - (4 + bs.length) % 4) % 4 = _; rw [Nat.add_comm]]
      rw [HZ] at HP8 hk8
      have N8 : NewP wp.heap.size wout (.slice A8 k8 c8) (cB c) w8 := NewP.app ⟨o7, HB7.out, HN3.out.hb⟩ HP8
      have BF2 : Below w.heap.size w w8 := Bl.trans B5 (Bl.low (Bl.trans HBWR.out N8.bel) B5.size)
      have HK8 := Lib.hid hk8
      clear HP8 hk8 HZ CPD o7
      go_wp2
      go_ret2
      unfold PutC
      rw [cO_ok HE2.out, HE2.out]
      have hk8' := HK8.out
      subst hk8'
      exact ⟨BF2, A8, c8, rfl, OwnB.low N8.own B5.size⟩
set_option maxHeartbeats 4000000 in
set_option maxRecDepth 100000 in
theorem rput_2 (lo hi : Nat) (cs : Array Value) (c : Ck) (w : World) (hC : CkV w lo hi cs c) (hhi : hi ≤ w.heap.size) (hBd : CkB c) (hL : CkL c) (hk : c.k = 2) :
    Calls Try.prog 14 #[.agg cs] w (PutC w c) := by
  have hsz := hC.size
  have hbw : w.heap.size < (w.alloc (.cells cs 31)).heap.size := by simp
  have B0 : Below w.heap.size w (w.alloc (.cells cs 31)) := (Below.refl _ w).alloc (Nat.le_refl _) _
  have bC := Blk.new w cs 31
  have hC1 := hC.fr (S := nothing) ((Fr.refl _ w).alloc (.cells cs 31)) (fun _ _ _ h => h)
  have c0 := hC.c0
  rw [hk] at c0
  have hlen := bB_len hL
  have HK := Lib.hid hk
  have HHI := Lib.hid hhi
  have kk : kn c.k = true := by rw [hk]; rfl
  have HKN := Lib.hid kk
  obtain ⟨ib, hib, hbz0, hbz1, hbz2⟩ := info_parts info_b
  clear hk kk hhi
  have HF := Lib.hid (show fl c = 0 by simp [fl, HK.out])
  have HBB := Lib.hid (show [] ++ b32 c.tag ++ b32 c.win ++ b16 c.out ++ b16 c.inn ++ b32 c.tsn ++ enc c.ps = bB c by simp [bB, HK.out])
  have cc := (bC.cell 0).trans c0
  go_enter Try.func14, Try.ntmps14
  go_wp2_with fail
  refine (rknown_calls _ _ (by decide)).mono ?_
  rintro e wk ⟨rfl, hwk⟩
  rw [hwk]
  clear hwk cc
  generalize w.alloc (.cells cs 31) = w1 at *
  have H := NewP.nil w1.heap.size w1 (Nat.le_refl _)
  obtain ⟨kv, hkv⟩ : ∃ kv : Nat, kv = ([] : List Int).length := ⟨_, rfl⟩
  have HKV := Lib.hid hkv
  clear hkv
  have cc := (H.cell bC hbw (i := 10)).trans hC.c10
  have ww := u64w hBd.tag
  go_wp2_with fail
  -- c.tag the number; 4 how many bytes; hBd.tag its bounds; txt_b32: txt's name
  refine (rq_calls _ _ (c.tag) 4 _ H.zero (hBd.tag).1 (hBd.tag).2 (by decide) (by simp [b16_len, b32_len]; try omega)).mono ?_
  rintro e wp ⟨Ap, kp, pp, rfl, hkp, HP⟩
  rw [txt_b32] at hkp HP
  have H' := H.app HP
  have HKV' := Lib.hid hkp
  clear H HKV HP hkp
  have H := H'
  have HKV := HKV'
  clear H' HKV'
  clear cc ww
  have cc := (H.cell bC hbw (i := 11)).trans hC.c11
  have ww := u64w hBd.win
  go_wp2_with fail
  -- c.win the number; 4 how many bytes; hBd.win its bounds; txt_b32: txt's name
  refine (rq_calls _ _ (c.win) 4 _ H.zero (hBd.win).1 (hBd.win).2 (by decide) (by simp [b16_len, b32_len]; try omega)).mono ?_
  rintro e wp ⟨Ap, kp, pp, rfl, hkp, HP⟩
  rw [txt_b32] at hkp HP
  have H' := H.app HP
  have HKV' := Lib.hid hkp
  clear H HKV HP hkp
  have H := H'
  have HKV := HKV'
  clear H' HKV'
  clear cc ww
  have cc := (H.cell bC hbw (i := 12)).trans hC.c12
  have ww := u64w (r16 hBd.out)
  go_wp2_with fail
  -- c.out the number; 2 how many bytes; (r16 hBd.out) its bounds; txt_b16: txt's name
  refine (rq_calls _ _ (c.out) 2 _ H.zero ((r16 hBd.out)).1 ((r16 hBd.out)).2 (by decide) (by simp [b16_len, b32_len]; try omega)).mono ?_
  rintro e wp ⟨Ap, kp, pp, rfl, hkp, HP⟩
  rw [txt_b16] at hkp HP
  have H' := H.app HP
  have HKV' := Lib.hid hkp
  clear H HKV HP hkp
  have H := H'
  have HKV := HKV'
  clear H' HKV'
  clear cc ww
  have cc := (H.cell bC hbw (i := 13)).trans hC.c13
  have ww := u64w (r16 hBd.inn)
  go_wp2_with fail
  -- c.inn the number; 2 how many bytes; (r16 hBd.inn) its bounds; txt_b16: txt's name
  refine (rq_calls _ _ (c.inn) 2 _ H.zero ((r16 hBd.inn)).1 ((r16 hBd.inn)).2 (by decide) (by simp [b16_len, b32_len]; try omega)).mono ?_
  rintro e wp ⟨Ap, kp, pp, rfl, hkp, HP⟩
  rw [txt_b16] at hkp HP
  have H' := H.app HP
  have HKV' := Lib.hid hkp
  clear H HKV HP hkp
  have H := H'
  have HKV := HKV'
  clear H' HKV'
  clear cc ww
  have cc := (H.cell bC hbw (i := 5)).trans hC.c5
  have ww := u64w hBd.tsn
  go_wp2_with fail
  -- c.tsn the number; 4 how many bytes; hBd.tsn its bounds; txt_b32: txt's name
  refine (rq_calls _ _ (c.tsn) 4 _ H.zero (hBd.tsn).1 (hBd.tsn).2 (by decide) (by simp [b16_len, b32_len]; try omega)).mono ?_
  rintro e wp ⟨Ap, kp, pp, rfl, hkp, HP⟩
  rw [txt_b32] at hkp HP
  have H' := H.app HP
  have HKV' := Lib.hid hkp
  clear H HKV HP hkp
  have H := H'
  have HKV := HKV'
  clear H' HKV'
  clear cc ww
  -- parameters behind the bytes [] ++ b32 c.tag ++ b32 c.win ++ b16 c.out ++ b16 c.inn ++ b32 c.tsn; flags 0, kind 2
  have hCw := hC1.bl H.bel (Nat.le_trans HHI.out (Nat.le_of_lt hbw))
  obtain ⟨A17, p17, e17, h17⟩ := hCw.c17
  have cc := (H.cell bC hbw (i := 17)).trans e17
  have hs17 := H.bel.size
  have l17 := hL.ps
  have CPP := Prm.rput_calls _ _ A17 p17 c.ps _ h17 (Nat.le_trans HHI.out (Nat.le_trans (Nat.le_of_lt hbw) hs17)) hBd.ps (by omega) (by have := hL.pl; omega)
  unfold RPutR at CPP
  have HCPP := Lib.hid CPP
  clear CPP hCw
  go_upto_region 66 with fail
  cases hf : allFit c.ps with
  | false =>
    have HE2 := Lib.hid (show cE c = 43 by unfold cE; rw [if_neg (by rw [HKN.out]; decide), show bE c = 43 by simp [bE, HK.out, hf]]; rfl)
    have HF9 := Lib.hid hf
    clear hf
    go_wp2_with fail
    refine HCPP.out.mono ?_
    rintro e wz ⟨BZ, hz⟩
    rw [HF9.out] at hz
    obtain rfl : e = _ := hz
    have B5 := Bl.trans B0 (Bl.low (Bl.trans H.bel (Bl.low BZ hs17)) (Nat.le_of_lt hbw))
    clear BZ HCPP H cc
    go_wp2
    go_ret2
    unfold PutC
    rw [cO_bad (by rw [HE2.out]; decide), HE2.out]
    exact ⟨B5, none, 0, rfl, OwnB.nil _ _ _⟩
  | true =>
    have HE := Lib.hid (show bE c = 0 by simp [bE, HK.out, hf])
    have HF9 := Lib.hid hf
    clear hf
    go_wp2_with fail
    refine HCPP.out.mono ?_
    rintro e wz ⟨BZ, hz⟩
    rw [HF9.out] at hz
    obtain ⟨Az, cz, rfl, oz⟩ := hz
    have H1 := H.bl BZ
    obtain ⟨Az', cz', ez', -, -, -, rdz⟩ := SlB.of_own oz
    injection ez' with ez1 ez2 ez3
    subst ez1; subst ez3
    have hlnb : ([] ++ b32 c.tag ++ b32 c.win ++ b16 c.out ++ b16 c.inn ++ b32 c.tsn).length + (enc c.ps).length ≤ 140737488355328 := by simp [b16_len, b32_len]; omega
    have HNH := Lib.hid H1
    clear ez2 oz BZ HCPP H cc l17 hs17
    have H := H1
    clear H1
    go_upto_region 72 with (at_builtin; refine wpList_append_b _ rfl (.tmp 270) (.tmp 271) _ rfl w1.heap.size 5 ib Try.underlying29 hib hbz0 hbz1 hbz2 _ ([] ++ b32 c.tag ++ b32 c.win ++ b16 c.out ++ b16 c.inn ++ b32 c.tsn) rfl H.own _ _ _ _ _ (enc c.ps) rfl rfl rdz hlnb (Nat.le_trans H.hb H.bel.size) ?_; intro v3 wp hown hg hat; have H3 : NewP w1.heap.size w1 v3 ([] ++ b32 c.tag ++ b32 c.win ++ b16 c.out ++ b16 c.inn ++ b32 c.tsn ++ enc c.ps) wp := ⟨hown, Bl.trans HNH.out.bel (Bl.of_fr ((Fr.refl _ _).grown (S := fun k => w1.heap.size ≤ k) hg (fun k hk => .inl (OwnB.ge HNH.out.own k hk))) (Nat.le_trans HNH.out.hb HNH.out.bel.size) (fun k hk => hk)), HNH.out.hb⟩; obtain ⟨Ap, kp, pp, rfl, hkp⟩ := H3.shape; have HKV2 := Lib.hid hkp; clear hkp hown hg hat rdz H)
    clear HKV
    have HKV := HKV2
    have H := H3
    clear H3 HKV2 hlnb HNH
    -- H's bytes are the body's; the flags' value is 0 (HF: fl c = it), the kind 2
    rw [HBB.out] at H HKV
    have HKL := HKV.out
    obtain ⟨bs, hbs⟩ : ∃ bs, bB c = bs := ⟨_, rfl⟩
    have HBS := Lib.hid hbs
    rw [hbs] at H HKL hlen
    have hkb : kp ≤ 10000000000 := by omega
    have hwk : IntKind.i64.wrap ((kp : Int) + 4) = (kp : Int) + 4 := IntWalk.i64_in _ (by omega)
    have HKB := Lib.hid HKL
    have hs0 := H.bel.size
    have B5 := Bl.trans B0 (Bl.low H.bel (Nat.le_of_lt hbw))
    by_cases hl : 65535 < bs.length + 4
    · have he := cE_long HKN.out HE.out (by rw [HBS.out]; exact hl)
      have HE2 := Lib.hid he
      have hl2 : decide ((65535 : Int) < (kp : Int) + 4) = true := decide_eq_true (by omega)
      clear he hl HKL hbs HKV hkb
      go_wp2
      go_ret2
      unfold PutC
      rw [cO_bad (by rw [HE2.out]; decide), HE2.out]
      exact ⟨B5, none, 0, rfl, OwnB.nil _ _ _⟩
    · have he := cE_ok HKN.out HE.out (by rw [HBS.out]; exact hl)
      have HE2 := Lib.hid he
      have hl2 : decide ((65535 : Int) < (kp : Int) + 4) = false := decide_eq_false (by omega)
      have hb4 : 0 ≤ (kp : Int) + 4 ∧ (kp : Int) + 4 < 4294967296 := by omega
      have ww := u64w hb4
      have hlb : bs.length + 4 ≤ 65535 := by omega
      clear he hl HKL hbs HKV hkb hlen
      -- flags 0, kind 2, the length (kp : Int) + 4, the world wp
      go_upto_region 75 with fail
      have own2 : OwnB (wp.alloc (.cells #[.int .u8 2, .int .u8 0] 5)) wp.heap.size 5 (.slice (some ⟨wp.heap.size, 0, none⟩) 2 2) [2, 0] := ⟨rfl, .inr ⟨wp.heap.size, 2, #[.int .u8 2, .int .u8 0], rfl, Nat.le_refl _, heap_alloc_new wp _, Nat.le_refl _, (by decide), rfl, rfl⟩⟩
      have hb2 : wp.heap.size ≤ (wp.alloc (.cells #[.int .u8 2, .int .u8 0] 5)).heap.size := by simp
      have H2 : NewP wp.heap.size (wp.alloc (.cells #[.int .u8 2, .int .u8 0] 5)) (.slice (some ⟨wp.heap.size, 0, none⟩) 2 2) [2, 0] (wp.alloc (.cells #[.int .u8 2, .int .u8 0] 5)) := ⟨own2, Below.refl _ _, hb2⟩
      have HB2 : Below wp.heap.size wp (wp.alloc (.cells #[.int .u8 2, .int .u8 0] 5)) := (Below.refl _ wp).alloc (Nat.le_refl _) _
      generalize wp.alloc (.cells #[.int .u8 2, .int .u8 0] 5) = wout at *
      clear own2 hb2
      go_wp2_with fail
      refine (rq_calls _ _ ((kp : Int) + 4) 2 _ H2.zero hb4.1 hb4.2 (by decide) (by simp)).mono ?_
      rintro e ws ⟨As, ks, ps, rfl, hks, HS⟩
      rw [txt_b16] at hks HS
      have H3 := H2.app HS
      have HKS := Lib.hid hks
      have HBWR := Lib.hid HB2
      have HB3 := Bl.trans HB2 H3.bel
      have o3 := OwnB.fr H.own (Bl.fr HB3) (fun k h1 h2 => by have := OwnB.lt H.own k h1; omega)
      obtain ⟨A6, c6, e6, -, -, -, rd⟩ := SlB.of_own o3
      injection e6 with e61 e62 e63
      subst e61; subst e63
      have hln : ([2, 0] ++ b16 ((kp : Int) + 4)).length + bs.length ≤ 140737488355328 := by simp [b16_len]; omega
      clear H2 HS HB2 HB3 hks e62 o3 hl2 ww hwk
      have HN3 := Lib.hid H3
      go_wp2_with (at_builtin; refine wpList_append_b _ rfl (.tmp 309) (.tmp 310) _ rfl wp.heap.size 5 ib Try.underlying29 hib hbz0 hbz1 hbz2 _ ([2, 0] ++ b16 ((kp : Int) + 4)) rfl H3.own _ _ _ _ _ bs rfl HKB.out rd hln (Nat.le_trans H3.hb H3.bel.size) ?_; intro v7 w7 hown hg hat; have o7 : OwnB w7 wp.heap.size 5 v7 ([2, 0] ++ b16 ((kp : Int) + 4) ++ bs) := hown; have HB7 := Lib.hid (Bl.trans HN3.out.bel (Bl.of_fr ((Fr.refl _ ws).grown (S := fun k => wp.heap.size ≤ k) hg (fun k hk => .inl (OwnB.ge HN3.out.own k hk))) (Nat.le_trans HN3.out.hb HN3.out.bel.size) (fun k hk => hk))); obtain ⟨A7, n7, c7, rfl, hn7⟩ : ∃ A n c, v7 = .slice A n c ∧ n = (([2, 0] : List Int) ++ b16 ((kp : Int) + 4) ++ bs).length := (by obtain ⟨A, c, e, -⟩ := OwnB.slice o7; exact ⟨A, _, c, e, rfl⟩); clear hn7; clear hown hg hat rd H3)
      have CPD := rpad_calls _ _ 4 w7 (OwnB.low o7 (Nat.zero_le _)) (by simp [b16_len]; omega) (by decide)
      have hl7 : (([2, 0] : List Int) ++ b16 ((kp : Int) + 4) ++ bs).length = 4 + bs.length := by simp [b16_len]; omega
      rw [hl7] at CPD
      refine CPD.mono ?_
      rintro e w8 ⟨A8, k8, c8, rfl, hk8, HP8⟩
      have HZ : [2, 0] ++ b16 ((kp : Int) + 4) ++ bs ++ List.replicate (padTo (4 + bs.length) 4) 0 = cB c := by
        unfold cB
        rw [HK.out, HF.out, HBS.out, show (((bs.length + 4 : Nat) : Int)) = (kp : Int) + 4 by have h9 := HKB.out; omega, show padTo (4 + bs.length) 4 = (4 - (bs.length + 4) % 4) % 4 by unfold padTo; rw [if_neg (by decide)]; show (4 - (4 + bs.length) % 4) % 4 = _; rw [Nat.add_comm]]
      rw [HZ] at HP8 hk8
      have N8 : NewP wp.heap.size wout (.slice A8 k8 c8) (cB c) w8 := NewP.app ⟨o7, HB7.out, HN3.out.hb⟩ HP8
      have BF2 : Below w.heap.size w w8 := Bl.trans B5 (Bl.low (Bl.trans HBWR.out N8.bel) B5.size)
      have HK8 := Lib.hid hk8
      clear HP8 hk8 HZ CPD o7
      go_wp2
      go_ret2
      unfold PutC
      rw [cO_ok HE2.out, HE2.out]
      have hk8' := HK8.out
      subst hk8'
      exact ⟨BF2, A8, c8, rfl, OwnB.low N8.own B5.size⟩
end Go.Proofs.Ytaifihoheieneaa.Chk
namespace Go.Proofs.Ytaifihoheieneaa.Chk
open Go.RowKit Go.Proofs.Ytaifihoheieneaa.Mem Go.Proofs.Ytaifihoheieneaa.Octet Go.Proofs.Ytaifihoheieneaa.Prm
set_option linter.unusedVariables false
set_option linter.unusedSimpArgs false
theorem r16n {n : Nat} (h : ¬ 65535 < n) : 0 ≤ (n : Int) ∧ (n : Int) < 4294967296 := by omega
set_option maxHeartbeats 4000000 in
set_option maxRecDepth 100000 in
theorem rput_3 (lo hi : Nat) (cs : Array Value) (c : Ck) (w : World) (hC : CkV w lo hi cs c) (hhi : hi ≤ w.heap.size) (hBd : CkB c) (hL : CkL c) (hk : c.k = 3) :
    Calls Try.prog 14 #[.agg cs] w (PutC w c) := by
  have hsz := hC.size
  have hbw : w.heap.size < (w.alloc (.cells cs 31)).heap.size := by simp
  have B0 : Below w.heap.size w (w.alloc (.cells cs 31)) := (Below.refl _ w).alloc (Nat.le_refl _) _
  have bC := Blk.new w cs 31
  have hC1 := hC.fr (S := nothing) ((Fr.refl _ w).alloc (.cells cs 31)) (fun _ _ _ h => h)
  have c0 := hC.c0
  rw [hk] at c0
  have hlen := bB_len hL
  have HK := Lib.hid hk
  have HHI := Lib.hid hhi
  have kk : kn c.k = true := by rw [hk]; rfl
  have HKN := Lib.hid kk
  obtain ⟨ib, hib, hbz0, hbz1, hbz2⟩ := info_parts info_b
  clear hk kk hhi
  obtain ⟨A14, p14, e14, G14⟩ := hC1.c14
  obtain ⟨A15, p15, e15, D15⟩ := hC1.c15
  have HF := Lib.hid (show fl c = 0 by simp [fl, HK.out])
  have l14 := hL.gaps
  have l15 := hL.dups
  by_cases hg : 65535 < c.gaps.length
  · have hgd : decide ((65535 : Int) < c.gaps.length) = true := decide_eq_true (by omega)
    have hlg : 65535 < c.gaps.length ∨ 65535 < c.dups.length := .inl hg
    clear hg
    have HE2 := Lib.hid (show cE c = 43 by unfold cE; rw [if_neg (by rw [HKN.out]; decide), show bE c = 43 by simp [bE, HK.out, hlg]]; rfl)
    clear hlg
    have cc := (bC.cell 0).trans c0
    go_enter Try.func14, Try.ntmps14
    go_wp2_with fail
    refine (rknown_calls _ _ (by decide)).mono ?_
    rintro e wk ⟨rfl, hwk⟩
    rw [hwk]
    clear hwk cc
    generalize w.alloc (.cells cs 31) = w1 at *
    have H := NewP.nil w1.heap.size w1 (Nat.le_refl _)
    obtain ⟨kv, hkv⟩ : ∃ kv : Nat, kv = ([] : List Int).length := ⟨_, rfl⟩
    have HKV := Lib.hid hkv
    clear hkv
    have cc := (H.cell bC hbw (i := 14)).trans e14
    have cd := (H.cell bC hbw (i := 15)).trans e15
    go_wp2
    go_ret2
    unfold PutC
    rw [cO_bad (by rw [HE2.out]; decide), HE2.out]
    exact ⟨B0, none, 0, rfl, OwnB.nil _ _ _⟩
  have hgd : decide ((65535 : Int) < c.gaps.length) = false := decide_eq_false (by omega)
  by_cases hd : 65535 < c.dups.length
  · have hdd : decide ((65535 : Int) < c.dups.length) = true := decide_eq_true (by omega)
    have hlg : 65535 < c.gaps.length ∨ 65535 < c.dups.length := .inr hd
    clear hg hd
    have HE2 := Lib.hid (show cE c = 43 by unfold cE; rw [if_neg (by rw [HKN.out]; decide), show bE c = 43 by simp [bE, HK.out, hlg]]; rfl)
    clear hlg
    have cc := (bC.cell 0).trans c0
    go_enter Try.func14, Try.ntmps14
    go_wp2_with fail
    refine (rknown_calls _ _ (by decide)).mono ?_
    rintro e wk ⟨rfl, hwk⟩
    rw [hwk]
    clear hwk cc
    generalize w.alloc (.cells cs 31) = w1 at *
    have H := NewP.nil w1.heap.size w1 (Nat.le_refl _)
    obtain ⟨kv, hkv⟩ : ∃ kv : Nat, kv = ([] : List Int).length := ⟨_, rfl⟩
    have HKV := Lib.hid hkv
    clear hkv
    have cc := (H.cell bC hbw (i := 14)).trans e14
    have cd := (H.cell bC hbw (i := 15)).trans e15
    go_wp2
    go_ret2
    unfold PutC
    rw [cO_bad (by rw [HE2.out]; decide), HE2.out]
    exact ⟨B0, none, 0, rfl, OwnB.nil _ _ _⟩
  have hdd : decide ((65535 : Int) < c.dups.length) = false := decide_eq_false (by omega)
  have HE := Lib.hid (show bE c = 0 by simp [bE, HK.out, hg, hd])
  have HBB := Lib.hid (show [] ++ b32 c.tsn ++ b32 c.win ++ b16 c.gaps.length ++ b16 c.dups.length ++ gB c.gaps ++ dB c.dups = bB c by simp [bB, HK.out])
  have hgr := r16n hg
  have hdr := r16n hd
  have hbs := hBd.gaps
  have hbd := hBd.dups
  clear hg hd
  have cc := (bC.cell 0).trans c0
  go_enter Try.func14, Try.ntmps14
  go_wp2_with fail
  refine (rknown_calls _ _ (by decide)).mono ?_
  rintro e wk ⟨rfl, hwk⟩
  rw [hwk]
  clear hwk cc
  generalize w.alloc (.cells cs 31) = w1 at *
  have H := NewP.nil w1.heap.size w1 (Nat.le_refl _)
  obtain ⟨kv, hkv⟩ : ∃ kv : Nat, kv = ([] : List Int).length := ⟨_, rfl⟩
  have HKV := Lib.hid hkv
  clear hkv
  have cc14 := (H.cell bC hbw (i := 14)).trans e14
  have cc15 := (H.cell bC hbw (i := 15)).trans e15
  have cc := (H.cell bC hbw (i := 5)).trans hC.c5
  have ww := u64w hBd.tsn
  go_wp2_with fail
  -- c.tsn the number; 4 how many bytes; hBd.tsn its bounds; txt_b32: txt's name
  refine (rq_calls _ _ (c.tsn) 4 _ H.zero (hBd.tsn).1 (hBd.tsn).2 (by decide) (by simp [b16_len, b32_len]; try omega)).mono ?_
  rintro e wp ⟨Ap, kp, pp, rfl, hkp, HP⟩
  rw [txt_b32] at hkp HP
  have H' := H.app HP
  have HKV' := Lib.hid hkp
  clear H HKV HP hkp
  have H := H'
  have HKV := HKV'
  clear H' HKV'
  clear cc ww
  clear hgd hdd cc14 cc15
  have cc := (H.cell bC hbw (i := 11)).trans hC.c11
  have ww := u64w hBd.win
  go_wp2_with fail
  -- c.win the number; 4 how many bytes; hBd.win its bounds; txt_b32: txt's name
  refine (rq_calls _ _ (c.win) 4 _ H.zero (hBd.win).1 (hBd.win).2 (by decide) (by simp [b16_len, b32_len]; try omega)).mono ?_
  rintro e wp ⟨Ap, kp, pp, rfl, hkp, HP⟩
  rw [txt_b32] at hkp HP
  have H' := H.app HP
  have HKV' := Lib.hid hkp
  clear H HKV HP hkp
  have H := H'
  have HKV := HKV'
  clear H' HKV'
  clear cc ww
  have cc := (H.cell bC hbw (i := 14)).trans e14
  have ww := u64w hgr
  go_wp2_with fail
  -- (c.gaps.length : Int) the number; 2 how many bytes; hgr its bounds; txt_b16: txt's name
  refine (rq_calls _ _ ((c.gaps.length : Int)) 2 _ H.zero (hgr).1 (hgr).2 (by decide) (by simp [b16_len, b32_len]; try omega)).mono ?_
  rintro e wp ⟨Ap, kp, pp, rfl, hkp, HP⟩
  rw [txt_b16] at hkp HP
  have H' := H.app HP
  have HKV' := Lib.hid hkp
  clear H HKV HP hkp
  have H := H'
  have HKV := HKV'
  clear H' HKV'
  clear cc ww
  have cc := (H.cell bC hbw (i := 15)).trans e15
  have ww := u64w hdr
  go_wp2_with fail
  -- (c.dups.length : Int) the number; 2 how many bytes; hdr its bounds; txt_b16: txt's name
  refine (rq_calls _ _ ((c.dups.length : Int)) 2 _ H.zero (hdr).1 (hdr).2 (by decide) (by simp [b16_len, b32_len]; try omega)).mono ?_
  rintro e wp ⟨Ap, kp, pp, rfl, hkp, HP⟩
  rw [txt_b16] at hkp HP
  have H' := H.app HP
  have HKV' := Lib.hid hkp
  clear H HKV HP hkp
  have H := H'
  have HKV := HKV'
  clear H' HKV'
  clear cc ww
  have cc := (H.cell bC hbw (i := 14)).trans e14
  have hPl : ([] ++ b32 c.tsn ++ b32 c.win ++ b16 c.gaps.length ++ b16 c.dups.length).length = 12 := rfl
  generalize [] ++ b32 c.tsn ++ b32 c.win ++ b16 c.gaps.length ++ b16 c.dups.length = P at H HBB hPl HKV
  have HS14 := Lib.hid G14
  have HS15 := Lib.hid D15
  clear HKV G14 D15
  go_wp2_with fail
  go_loopw [5, 165] (fun v i wr => ∃ j : Nat, j ≤ c.gaps.length ∧ i = .int .i64 j ∧ NewP w1.heap.size w1 v (P ++ gB (c.gaps.take j)) wr) (fun _ i _ => c.gaps.length - (intOf i).toNat)
  case atStart => exact ⟨0, Nat.zero_le _, rfl, by simpa [gB] using H⟩
  case round =>
    clear H cc
    obtain ⟨j, hj, rfl, H⟩ := hrel
    obtain ⟨Ap, kp, pp, rfl, hkp⟩ := H.shape
    by_cases hlt : j < c.gaps.length
    · have S9 := HS14.out.fr (Bl.fr H.bel) (fun k _ h2 h3 => by have := HHI.out; omega)
      obtain ⟨ad, rfl, h1, h2, h3, h4⟩ := S9 j hlt
      have hS := hbs _ (List.getElem_mem hlt)
      have HT := Lib.hid (gB_take c.gaps j hlt)
      have hLL := gB_len (c.gaps.take j)
      rw [List.length_take] at hLL
      have hlz : (P ++ gB (c.gaps.take j)).length ≤ 8000000020 := by rw [List.length_append, hLL, hPl]; omega
      obtain ⟨Z, hZ⟩ : ∃ Z, P ++ gB (c.gaps.take j) = Z := ⟨_, rfl⟩
      rw [hZ] at H hlz
      have HZ := Lib.hid hZ
      generalize c.gaps[j] = s at h3 h4 hS HT
      obtain ⟨x, y⟩ := s
      have hx : 0 ≤ x ∧ x < 65536 := hS.1
      have hy : 0 ≤ y ∧ y < 65536 := hS.2
      rw [add_add_ _ _ _ (by decide)] at h4
      replace h3 : wr.cell? (ad.add (j * 2)) = some (.int .u16 x) := h3
      replace h4 : wr.cell? ⟨(ad.add (j * 2)).block, (ad.add (j * 2)).off + 1, none⟩ = some (.int .u16 y) := h4
      have hjl : (j : Int) < c.gaps.length := by omega
      have bS := Blk.new wr #[.int .u16 x, .int .u16 y] 73
      have H2 := H.bl ((Below.refl wr.heap.size wr).alloc (Nat.le_refl _) (.cells #[.int .u16 x, .int .u16 y] 73))
      have wx := u64w (r16 hx)
      have wy := u64w (r16 hy)
      clear S9 H hS hkp hLL hZ
      have H := H2
      clear H2
      go_upto_region 42 with fail
      generalize wr.alloc (.cells #[.int .u16 x, .int .u16 y] 73) = ws at *
      generalize wr.heap.size = gS at *
      clear h3 h4
      have cS0 := bS.cell 0
      have cS1 := bS.cell 1
      simp at cS0 cS1
      go_wp2_with fail
      -- a put within a round; x the number, 2 bytes, (r16 hx) bounds, txt_b16 txt's name; the loop's own struct stays
      refine (rq_calls _ _ (x) 2 _ H.zero ((r16 hx)).1 ((r16 hx)).2 (by decide) (by simp [b16_len, b32_len]; omega)).mono ?_
      rintro e wp ⟨A9, k9, p9, rfl, hk9, HP⟩
      rw [txt_b16] at HP
      replace bS := bS.fr HP.2.2 (fun h => OwnB.ne H.own bS (by decide) h)
      have H' := H.app HP
      clear H HP hk9
      have H := H'
      clear H'
      clear cS0 cS1
      have cS0 := bS.cell 0
      have cS1 := bS.cell 1
      simp at cS0 cS1
      go_wp2_with fail
      -- a put within a round; y the number, 2 bytes, (r16 hy) bounds, txt_b16 txt's name; the loop's own struct stays
      refine (rq_calls _ _ (y) 2 _ H.zero ((r16 hy)).1 ((r16 hy)).2 (by decide) (by simp [b16_len, b32_len]; omega)).mono ?_
      rintro e wp ⟨A9, k9, p9, rfl, hk9, HP⟩
      rw [txt_b16] at HP
      replace bS := bS.fr HP.2.2 (fun h => OwnB.ne H.own bS (by decide) h)
      have H' := H.app HP
      clear H HP hk9
      have H := H'
      clear H'
      have HW := Lib.hid (show NewP w1.heap.size w1 _ (P ++ gB (c.gaps.take (j + 1))) _ by rw [HT.out, ← List.append_assoc, ← List.append_assoc, HZ.out]; exact H)
      clear H bS cS0 cS1 HT wx wy
      go_wp2
      go_roundw
      case rel => exact ⟨j + 1, by omega, by go_num, HW.out⟩
      case measure => simp [intOf]; omega
    · obtain rfl : j = c.gaps.length := by omega
      rw [List.take_length] at H hkp
      have hjl : ¬ ((c.gaps.length : Nat) : Int) < c.gaps.length := by omega
      have cc := (H.cell bC hbw (i := 15)).trans e15
      have hLL := gB_len c.gaps
      have hQl : (P ++ gB c.gaps).length ≤ 4000000020 := by rw [List.length_append, hPl, hLL]; omega
      generalize P ++ gB c.gaps = Q at H HBB hQl hkp
      have HKP := Lib.hid hkp
      clear hkp hlt hj hLL
      go_wp2_with fail
      go_loopw [5, 183] (fun v i wq => ∃ j : Nat, j ≤ c.dups.length ∧ i = .int .i64 j ∧ NewP w1.heap.size w1 v (Q ++ dB (c.dups.take j)) wq) (fun _ i _ => c.dups.length - (intOf i).toNat)
      case atStart => exact ⟨0, Nat.zero_le _, rfl, by simpa [dB] using H⟩
      case round =>
        clear H cc hjl HKP
        obtain ⟨j, hj, rfl, H⟩ := hrel
        obtain ⟨Ap, kp, pp, rfl, hkp⟩ := H.shape
        by_cases hlt : j < c.dups.length
        · have S9 := HS15.out.fr (Bl.fr H.bel) (fun k _ h2 h3 => by have := HHI.out; omega)
          obtain ⟨ad, rfl, h1, h2, h3⟩ := S9 j hlt
          have hx := hbd _ (List.getElem_mem hlt)
          have HT := Lib.hid (dB_take c.dups j hlt)
          have hLL := dB_len (c.dups.take j)
          rw [List.length_take] at hLL
          have hlz : (Q ++ dB (c.dups.take j)).length ≤ 8000000020 := by rw [List.length_append, hLL]; omega
          obtain ⟨Z, hZ⟩ : ∃ Z, Q ++ dB (c.dups.take j) = Z := ⟨_, rfl⟩
          rw [hZ] at H hlz
          have HZ := Lib.hid hZ
          generalize c.dups[j] = x at h3 hx HT
          have hjl : (j : Int) < c.dups.length := by omega
          have wx := u64w hx
          clear S9 hkp hLL hZ
          go_wp2_with fail
          refine (rq_calls _ _ x 4 _ H.zero hx.1 hx.2 (by decide) (by omega)).mono ?_
          rintro e wp ⟨A9, k9, p9, rfl, hk9, HP⟩
          rw [txt_b32] at HP
          have H' := H.app HP
          have HW := Lib.hid (show NewP w1.heap.size w1 _ (Q ++ dB (c.dups.take (j + 1))) _ by rw [HT.out, ← List.append_assoc, HZ.out]; exact H')
          clear H H' HP hk9 HT h3 wx
          go_wp2
          go_roundw
          case rel => exact ⟨j + 1, by omega, by go_num, HW.out⟩
          case measure => simp [intOf]; omega
        · obtain rfl : j = c.dups.length := by omega
          rw [List.take_length] at H hkp
          have hjl : ¬ ((c.dups.length : Nat) : Int) < c.dups.length := by omega
          have HKV := Lib.hid hkp
          clear hkp hlt hj
          -- H's bytes are the body's; the flags' value is 0 (HF: fl c = it), the kind 3
          rw [HBB.out] at H HKV
          have HKL := HKV.out
          obtain ⟨bs, hbs⟩ : ∃ bs, bB c = bs := ⟨_, rfl⟩
          have HBS := Lib.hid hbs
          rw [hbs] at H HKL hlen
          have hkb : kp ≤ 10000000000 := by omega
          have hwk : IntKind.i64.wrap ((kp : Int) + 4) = (kp : Int) + 4 := IntWalk.i64_in _ (by omega)
          have HKB := Lib.hid HKL
          have hs0 := H.bel.size
          have B5 := Bl.trans B0 (Bl.low H.bel (Nat.le_of_lt hbw))
          by_cases hl : 65535 < bs.length + 4
          · have he := cE_long HKN.out HE.out (by rw [HBS.out]; exact hl)
            have HE2 := Lib.hid he
            have hl2 : decide ((65535 : Int) < (kp : Int) + 4) = true := decide_eq_true (by omega)
            clear he hl HKL hbs HKV hkb
            go_wp2
            go_ret2
            unfold PutC
            rw [cO_bad (by rw [HE2.out]; decide), HE2.out]
            exact ⟨B5, none, 0, rfl, OwnB.nil _ _ _⟩
          · have he := cE_ok HKN.out HE.out (by rw [HBS.out]; exact hl)
            have HE2 := Lib.hid he
            have hl2 : decide ((65535 : Int) < (kp : Int) + 4) = false := decide_eq_false (by omega)
            have hb4 : 0 ≤ (kp : Int) + 4 ∧ (kp : Int) + 4 < 4294967296 := by omega
            have ww := u64w hb4
            have hlb : bs.length + 4 ≤ 65535 := by omega
            clear he hl HKL hbs HKV hkb hlen
            -- flags 0, kind 3, the length (kp : Int) + 4, the world wr
            go_upto_region 75 with fail
            have own2 : OwnB (wr.alloc (.cells #[.int .u8 3, .int .u8 0] 5)) wr.heap.size 5 (.slice (some ⟨wr.heap.size, 0, none⟩) 2 2) [3, 0] := ⟨rfl, .inr ⟨wr.heap.size, 2, #[.int .u8 3, .int .u8 0], rfl, Nat.le_refl _, heap_alloc_new wr _, Nat.le_refl _, (by decide), rfl, rfl⟩⟩
            have hb2 : wr.heap.size ≤ (wr.alloc (.cells #[.int .u8 3, .int .u8 0] 5)).heap.size := by simp
            have H2 : NewP wr.heap.size (wr.alloc (.cells #[.int .u8 3, .int .u8 0] 5)) (.slice (some ⟨wr.heap.size, 0, none⟩) 2 2) [3, 0] (wr.alloc (.cells #[.int .u8 3, .int .u8 0] 5)) := ⟨own2, Below.refl _ _, hb2⟩
            have HB2 : Below wr.heap.size wr (wr.alloc (.cells #[.int .u8 3, .int .u8 0] 5)) := (Below.refl _ wr).alloc (Nat.le_refl _) _
            generalize wr.alloc (.cells #[.int .u8 3, .int .u8 0] 5) = wout at *
            clear own2 hb2
            go_wp2_with fail
            refine (rq_calls _ _ ((kp : Int) + 4) 2 _ H2.zero hb4.1 hb4.2 (by decide) (by simp)).mono ?_
            rintro e ws ⟨As, ks, ps, rfl, hks, HS⟩
            rw [txt_b16] at hks HS
            have H3 := H2.app HS
            have HKS := Lib.hid hks
            have HBWR := Lib.hid HB2
            have HB3 := Bl.trans HB2 H3.bel
            have o3 := OwnB.fr H.own (Bl.fr HB3) (fun k h1 h2 => by have := OwnB.lt H.own k h1; omega)
            obtain ⟨A6, c6, e6, -, -, -, rd⟩ := SlB.of_own o3
            injection e6 with e61 e62 e63
            subst e61; subst e63
            have hln : ([3, 0] ++ b16 ((kp : Int) + 4)).length + bs.length ≤ 140737488355328 := by simp [b16_len]; omega
            clear H2 HS HB2 HB3 hks e62 o3 hl2 ww hwk
            have HN3 := Lib.hid H3
            go_wp2_with (at_builtin; refine wpList_append_b _ rfl (.tmp 309) (.tmp 310) _ rfl wr.heap.size 5 ib Try.underlying29 hib hbz0 hbz1 hbz2 _ ([3, 0] ++ b16 ((kp : Int) + 4)) rfl H3.own _ _ _ _ _ bs rfl HKB.out rd hln (Nat.le_trans H3.hb H3.bel.size) ?_; intro v7 w7 hown hg hat; have o7 : OwnB w7 wr.heap.size 5 v7 ([3, 0] ++ b16 ((kp : Int) + 4) ++ bs) := hown; have HB7 := Lib.hid (Bl.trans HN3.out.bel (Bl.of_fr ((Fr.refl _ ws).grown (S := fun k => wr.heap.size ≤ k) hg (fun k hk => .inl (OwnB.ge HN3.out.own k hk))) (Nat.le_trans HN3.out.hb HN3.out.bel.size) (fun k hk => hk))); obtain ⟨A7, n7, c7, rfl, hn7⟩ : ∃ A n c, v7 = .slice A n c ∧ n = (([3, 0] : List Int) ++ b16 ((kp : Int) + 4) ++ bs).length := (by obtain ⟨A, c, e, -⟩ := OwnB.slice o7; exact ⟨A, _, c, e, rfl⟩); clear hn7; clear hown hg hat rd H3)
            have CPD := rpad_calls _ _ 4 w7 (OwnB.low o7 (Nat.zero_le _)) (by simp [b16_len]; omega) (by decide)
            have hl7 : (([3, 0] : List Int) ++ b16 ((kp : Int) + 4) ++ bs).length = 4 + bs.length := by simp [b16_len]; omega
            rw [hl7] at CPD
            refine CPD.mono ?_
            rintro e w8 ⟨A8, k8, c8, rfl, hk8, HP8⟩
            have HZ : [3, 0] ++ b16 ((kp : Int) + 4) ++ bs ++ List.replicate (padTo (4 + bs.length) 4) 0 = cB c := by
              unfold cB
              rw [HK.out, HF.out, HBS.out, show (((bs.length + 4 : Nat) : Int)) = (kp : Int) + 4 by have h9 := HKB.out; omega, show padTo (4 + bs.length) 4 = (4 - (bs.length + 4) % 4) % 4 by unfold padTo; rw [if_neg (by decide)]; show (4 - (4 + bs.length) % 4) % 4 = _; rw [Nat.add_comm]]
            rw [HZ] at HP8 hk8
            have N8 : NewP wr.heap.size wout (.slice A8 k8 c8) (cB c) w8 := NewP.app ⟨o7, HB7.out, HN3.out.hb⟩ HP8
            have BF2 : Below w.heap.size w w8 := Bl.trans B5 (Bl.low (Bl.trans HBWR.out N8.bel) B5.size)
            have HK8 := Lib.hid hk8
            clear HP8 hk8 HZ CPD o7
            go_wp2
            go_ret2
            unfold PutC
            rw [cO_ok HE2.out, HE2.out]
            have hk8' := HK8.out
            subst hk8'
            exact ⟨BF2, A8, c8, rfl, OwnB.low N8.own B5.size⟩
end Go.Proofs.Ytaifihoheieneaa.Chk
