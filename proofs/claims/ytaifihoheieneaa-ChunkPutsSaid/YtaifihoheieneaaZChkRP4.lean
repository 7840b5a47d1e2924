/- The contract of flumeref06.Put: the kind 0. Conditions: the chunk's lists lie in blocks of before. -/
import Derived.Test.YtaifihoheieneaaZChkRBase
namespace Go.Proofs.Ytaifihoheieneaa.Chk
open Go.RowKit Go.Proofs.Ytaifihoheieneaa.Mem Go.Proofs.Ytaifihoheieneaa.Octet Go.Proofs.Ytaifihoheieneaa.Prm
set_option linter.unusedVariables false
set_option linter.unusedSimpArgs false
set_option maxHeartbeats 4000000 in
set_option maxRecDepth 100000 in
theorem rput_0_0 (lo hi : Nat) (cs : Array Value) (c : Ck) (w : World) (hC : CkV w lo hi cs c) (hhi : hi ≤ w.heap.size) (hBd : CkB c) (hL : CkL c) (hk : c.k = 0) (hb : ¬ c.body = []) (he : c.e = false) (hbb : c.b = false) (hl : c.l = false) :
    Calls Try.prog 14 #[.agg cs] w (PutC w c) := by
  have hsz := hC.size
  have hbw : w.heap.size < (w.alloc (.cells cs 31)).heap.size := by simp
  have B0 : Below w.heap.size w (w.alloc (.cells cs 31)) := (Below.refl _ w).alloc (Nat.le_refl _) _
  have bC := Blk.new w cs 31
  have hC1 := hC.fr (S := nothing) ((Fr.refl _ w).alloc (.cells cs 31)) (fun _ _ _ h => h)
  have c0 := hC.c0
  rw [hk] at c0
  have hlen := bB_len hL
  have HK := Lib.hid hk
  have HHI := Lib.hid hhi
  have kk : kn c.k = true := by rw [hk]; rfl
  have HKN := Lib.hid kk
  obtain ⟨ib, hib, hbz0, hbz1, hbz2⟩ := info_parts info_b
  have c1 := hC.c1
  have c2 := hC.c2
  have c3 := hC.c3
  rw [hbb] at c1
  rw [he] at c2
  rw [hl] at c3
  have HBBB := Lib.hid hbb
  have HE := Lib.hid (show bE c = 0 by simp [bE, HK.out, hb])
  have HF := Lib.hid (show fl c = 0 by simp [fl, HK.out, he, hbb, hl, bt])
  have hz : ((c.body.length : Int) == 0) = false := beq_eq_false_iff_ne.2 (fun h => hb (List.eq_nil_of_length_eq_zero (by omega)))
  obtain ⟨A18, p18, e18, h18⟩ := hC1.c18
  clear hk kk hhi hb he hbb hl h18
  have cc := (bC.cell 0).trans c0
  go_enter Try.func14, Try.ntmps14
  go_wp2_with fail
  refine (rknown_calls _ _ (by decide)).mono ?_
  rintro e wk ⟨rfl, hwk⟩
  rw [hwk]
  clear hwk cc
  generalize w.alloc (.cells cs 31) = w1 at *
  have H := NewP.nil w1.heap.size w1 (Nat.le_refl _)
  obtain ⟨kv, hkv⟩ : ∃ kv : Nat, kv = ([] : List Int).length := ⟨_, rfl⟩
  have HKV := Lib.hid hkv
  clear hkv
  have cc1 := (H.cell bC hbw (i := 1)).trans c1
  have cc2 := (H.cell bC hbw (i := 2)).trans c2
  have cc3 := (H.cell bC hbw (i := 3)).trans c3
  have cc18 := (H.cell bC hbw (i := 18)).trans e18
  go_upto_region 15 with fail
  clear cc1 cc2 cc3 cc18 hz
  have HBB := Lib.hid (show [] ++ b32 c.tsn ++ b16 c.st ++ b16 (c.mid % 65536) ++ b32 c.pp ++ c.body = bB c by simp [bB, HK.out])
  have cc := (H.cell bC hbw (i := 5)).trans hC.c5
  have ww := u64w hBd.tsn
  go_wp2_with fail
  -- c.tsn the number; 4 how many bytes; hBd.tsn its bounds; txt_b32: txt's name
  refine (rq_calls _ _ (c.tsn) 4 _ H.zero (hBd.tsn).1 (hBd.tsn).2 (by decide) (by simp [b16_len, b32_len]; try omega)).mono ?_
  rintro e wp ⟨Ap, kp, pp, rfl, hkp, HP⟩
  rw [txt_b32] at hkp HP
  have H' := H.app HP
  have HKV' := Lib.hid hkp
  clear H HKV HP hkp
  have H := H'
  have HKV := HKV'
  clear H' HKV'
  clear cc ww
  have cc := (H.cell bC hbw (i := 6)).trans hC.c6
  have ww := u64w (r16 hBd.st)
  go_wp2_with fail
  -- c.st the number; 2 how many bytes; (r16 hBd.st) its bounds; txt_b16: txt's name
  refine (rq_calls _ _ (c.st) 2 _ H.zero ((r16 hBd.st)).1 ((r16 hBd.st)).2 (by decide) (by simp [b16_len, b32_len]; try omega)).mono ?_
  rintro e wp ⟨Ap, kp, pp, rfl, hkp, HP⟩
  rw [txt_b16] at hkp HP
  have H' := H.app HP
  have HKV' := Lib.hid hkp
  clear H HKV HP hkp
  have H := H'
  have HKV := HKV'
  clear H' HKV'
  clear cc ww
  have hmm : 0 ≤ c.mid % 65536 ∧ c.mid % 65536 < 4294967296 := by omega
  have hm2 : c.mid.tmod 65536 = c.mid % 65536 := Int.tmod_eq_emod_of_nonneg hBd.mid.1
  have cc := (H.cell bC hbw (i := 7)).trans hC.c7
  have ww := u64w hmm
  go_wp2_with fail
  -- c.mid % 65536 the number; 2 how many bytes; hmm its bounds; txt_b16: txt's name
  refine (rq_calls _ _ (c.mid % 65536) 2 _ H.zero (hmm).1 (hmm).2 (by decide) (by simp [b16_len, b32_len]; try omega)).mono ?_
  rintro e wp ⟨Ap, kp, pp, rfl, hkp, HP⟩
  rw [txt_b16] at hkp HP
  have H' := H.app HP
  have HKV' := Lib.hid hkp
  clear H HKV HP hkp
  have H := H'
  have HKV := HKV'
  clear H' HKV'
  clear cc ww
  clear hm2 hmm
  have cc := (H.cell bC hbw (i := 8)).trans hC.c8
  have ww := u64w hBd.pp
  go_wp2_with fail
  -- c.pp the number; 4 how many bytes; hBd.pp its bounds; txt_b32: txt's name
  refine (rq_calls _ _ (c.pp) 4 _ H.zero (hBd.pp).1 (hBd.pp).2 (by decide) (by simp [b16_len, b32_len]; try omega)).mono ?_
  rintro e wp ⟨Ap, kp, pp, rfl, hkp, HP⟩
  rw [txt_b32] at hkp HP
  have H' := H.app HP
  have HKV' := Lib.hid hkp
  clear H HKV HP hkp
  have H := H'
  have HKV := HKV'
  clear H' HKV'
  clear cc ww
  -- the body behind the bytes [] ++ b32 c.tsn ++ b16 c.st ++ b16 (c.mid % 65536) ++ b32 c.pp
  have hCw := hC1.bl H.bel (Nat.le_trans HHI.out (Nat.le_of_lt hbw))
  obtain ⟨A18, p18, e18, h18⟩ := hCw.c18
  have cc := (H.cell bC hbw (i := 18)).trans e18
  obtain ⟨A18', c18', e18', -, -, -, rd18⟩ := h18
  injection e18' with e181 e182 e183
  subst e181; subst e183
  have hlb := hL.body
  have hlnb : ([] ++ b32 c.tsn ++ b16 c.st ++ b16 (c.mid % 65536) ++ b32 c.pp).length + c.body.length ≤ 140737488355328 := by simp [b16_len, b32_len]; omega
  have HNH := Lib.hid H
  clear hCw e182
  go_upto_region 72 with (at_builtin; refine wpList_append_b _ rfl (.tmp 291) (.tmp 293) _ rfl w1.heap.size 5 ib Try.underlying29 hib hbz0 hbz1 hbz2 _ ([] ++ b32 c.tsn ++ b16 c.st ++ b16 (c.mid % 65536) ++ b32 c.pp) rfl H.own _ _ _ _ _ c.body rfl rfl rd18 hlnb (Nat.le_trans H.hb H.bel.size) ?_; intro v3 wp hown hg hat; have H3 : NewP w1.heap.size w1 v3 ([] ++ b32 c.tsn ++ b16 c.st ++ b16 (c.mid % 65536) ++ b32 c.pp ++ c.body) wp := ⟨hown, Bl.trans HNH.out.bel (Bl.of_fr ((Fr.refl _ _).grown (S := fun k => w1.heap.size ≤ k) hg (fun k hk => .inl (OwnB.ge HNH.out.own k hk))) (Nat.le_trans HNH.out.hb HNH.out.bel.size) (fun k hk => hk)), HNH.out.hb⟩; obtain ⟨Ap, kp, pp, rfl, hkp⟩ := H3.shape; have HKV2 := Lib.hid hkp; clear hkp hown hg hat rd18 H cc)
  clear HKV
  have HKV := HKV2
  have H := H3
  clear H3 HKV2 hlnb hlb HNH
  -- H's bytes are the body's; the flags' value is 0 (HF: fl c = it), the kind 0
  rw [HBB.out] at H HKV
  have HKL := HKV.out
  obtain ⟨bs, hbs⟩ : ∃ bs, bB c = bs := ⟨_, rfl⟩
  have HBS := Lib.hid hbs
  rw [hbs] at H HKL hlen
  have hkb : kp ≤ 10000000000 := by omega
  have hwk : IntKind.i64.wrap ((kp : Int) + 4) = (kp : Int) + 4 := IntWalk.i64_in _ (by omega)
  have HKB := Lib.hid HKL
  have hs0 := H.bel.size
  have B5 := Bl.trans B0 (Bl.low H.bel (Nat.le_of_lt hbw))
  by_cases hl : 65535 < bs.length + 4
  · have he := cE_long HKN.out HE.out (by rw [HBS.out]; exact hl)
    have HE2 := Lib.hid he
    have hl2 : decide ((65535 : Int) < (kp : Int) + 4) = true := decide_eq_true (by omega)
    clear he hl HKL hbs HKV hkb
    go_wp2
    go_ret2
    unfold PutC
    rw [cO_bad (by rw [HE2.out]; decide), HE2.out]
    exact ⟨B5, none, 0, rfl, OwnB.nil _ _ _⟩
  · have he := cE_ok HKN.out HE.out (by rw [HBS.out]; exact hl)
    have HE2 := Lib.hid he
    have hl2 : decide ((65535 : Int) < (kp : Int) + 4) = false := decide_eq_false (by omega)
    have hb4 : 0 ≤ (kp : Int) + 4 ∧ (kp : Int) + 4 < 4294967296 := by omega
    have ww := u64w hb4
    have hlb : bs.length + 4 ≤ 65535 := by omega
    clear he hl HKL hbs HKV hkb hlen
    -- flags 0, kind 0, the length (kp : Int) + 4, the world wp
    go_upto_region 75 with fail
    have own2 : OwnB (wp.alloc (.cells #[.int .u8 0, .int .u8 0] 5)) wp.heap.size 5 (.slice (some ⟨wp.heap.size, 0, none⟩) 2 2) [0, 0] := ⟨rfl, .inr ⟨wp.heap.size, 2, #[.int .u8 0, .int .u8 0], rfl, Nat.le_refl _, heap_alloc_new wp _, Nat.le_refl _, (by decide), rfl, rfl⟩⟩
    have hb2 : wp.heap.size ≤ (wp.alloc (.cells #[.int .u8 0, .int .u8 0] 5)).heap.size := by simp
    have H2 : NewP wp.heap.size (wp.alloc (.cells #[.int .u8 0, .int .u8 0] 5)) (.slice (some ⟨wp.heap.size, 0, none⟩) 2 2) [0, 0] (wp.alloc (.cells #[.int .u8 0, .int .u8 0] 5)) := ⟨own2, Below.refl _ _, hb2⟩
    have HB2 : Below wp.heap.size wp (wp.alloc (.cells #[.int .u8 0, .int .u8 0] 5)) := (Below.refl _ wp).alloc (Nat.le_refl _) _
    generalize wp.alloc (.cells #[.int .u8 0, .int .u8 0] 5) = wout at *
    clear own2 hb2
    go_wp2_with fail
    refine (rq_calls _ _ ((kp : Int) + 4) 2 _ H2.zero hb4.1 hb4.2 (by decide) (by simp)).mono ?_
    rintro e ws ⟨As, ks, ps, rfl, hks, HS⟩
    rw [txt_b16] at hks HS
    have H3 := H2.app HS
    have HKS := Lib.hid hks
    have HBWR := Lib.hid HB2
    have HB3 := Bl.trans HB2 H3.bel
    have o3 := OwnB.fr H.own (Bl.fr HB3) (fun k h1 h2 => by have := OwnB.lt H.own k h1; omega)
    obtain ⟨A6, c6, e6, -, -, -, rd⟩ := SlB.of_own o3
    injection e6 with e61 e62 e63
    subst e61; subst e63
    have hln : ([0, 0] ++ b16 ((kp : Int) + 4)).length + bs.length ≤ 140737488355328 := by simp [b16_len]; omega
    clear H2 HS HB2 HB3 hks e62 o3 hl2 ww hwk
    have HN3 := Lib.hid H3
    go_wp2_with (at_builtin; refine wpList_append_b _ rfl (.tmp 309) (.tmp 310) _ rfl wp.heap.size 5 ib Try.underlying29 hib hbz0 hbz1 hbz2 _ ([0, 0] ++ b16 ((kp : Int) + 4)) rfl H3.own _ _ _ _ _ bs rfl HKB.out rd hln (Nat.le_trans H3.hb H3.bel.size) ?_; intro v7 w7 hown hg hat; have o7 : OwnB w7 wp.heap.size 5 v7 ([0, 0] ++ b16 ((kp : Int) + 4) ++ bs) := hown; have HB7 := Lib.hid (Bl.trans HN3.out.bel (Bl.of_fr ((Fr.refl _ ws).grown (S := fun k => wp.heap.size ≤ k) hg (fun k hk => .inl (OwnB.ge HN3.out.own k hk))) (Nat.le_trans HN3.out.hb HN3.out.bel.size) (fun k hk => hk))); obtain ⟨A7, n7, c7, rfl, hn7⟩ : ∃ A n c, v7 = .slice A n c ∧ n = (([0, 0] : List Int) ++ b16 ((kp : Int) + 4) ++ bs).length := (by obtain ⟨A, c, e, -⟩ := OwnB.slice o7; exact ⟨A, _, c, e, rfl⟩); clear hn7; clear hown hg hat rd H3)
    have CPD := rpad_calls _ _ 4 w7 (OwnB.low o7 (Nat.zero_le _)) (by simp [b16_len]; omega) (by decide)
    have hl7 : (([0, 0] : List Int) ++ b16 ((kp : Int) + 4) ++ bs).length = 4 + bs.length := by simp [b16_len]; omega
    rw [hl7] at CPD
    refine CPD.mono ?_
    rintro e w8 ⟨A8, k8, c8, rfl, hk8, HP8⟩
    have HZ : [0, 0] ++ b16 ((kp : Int) + 4) ++ bs ++ List.replicate (padTo (4 + bs.length) 4) 0 = cB c := by
      unfold cB
      rw [HK.out, HF.out, HBS.out, show (((bs.length + 4 : Nat) : Int)) = (kp : Int) + 4 by have h9 := HKB.out; omega, show padTo (4 + bs.length) 4 = (4 - (bs.length + 4) % 4) % 4 by unfold padTo; rw [if_neg (by decide)]; show (4 - (4 + bs.length) % 4) % 4 = _; rw [Nat.add_comm]]
    rw [HZ] at HP8 hk8
    have N8 : NewP wp.heap.size wout (.slice A8 k8 c8) (cB c) w8 := NewP.app ⟨o7, HB7.out, HN3.out.hb⟩ HP8
    have BF2 : Below w.heap.size w w8 := Bl.trans B5 (Bl.low (Bl.trans HBWR.out N8.bel) B5.size)
    have HK8 := Lib.hid hk8
    clear HP8 hk8 HZ CPD o7
    go_wp2
    go_ret2
    unfold PutC
    rw [cO_ok HE2.out, HE2.out]
    have hk8' := HK8.out
    subst hk8'
    exact ⟨BF2, A8, c8, rfl, OwnB.low N8.own B5.size⟩
set_option maxHeartbeats 4000000 in
set_option maxRecDepth 100000 in
theorem rput_0_1 (lo hi : Nat) (cs : Array Value) (c : Ck) (w : World) (hC : CkV w lo hi cs c) (hhi : hi ≤ w.heap.size) (hBd : CkB c) (hL : CkL c) (hk : c.k = 0) (hb : ¬ c.body = []) (he : c.e = true) (hbb : c.b = false) (hl : c.l = false) :
    Calls Try.prog 14 #[.agg cs] w (PutC w c) := by
  have hsz := hC.size
  have hbw : w.heap.size < (w.alloc (.cells cs 31)).heap.size := by simp
  have B0 : Below w.heap.size w (w.alloc (.cells cs 31)) := (Below.refl _ w).alloc (Nat.le_refl _) _
  have bC := Blk.new w cs 31
  have hC1 := hC.fr (S := nothing) ((Fr.refl _ w).alloc (.cells cs 31)) (fun _ _ _ h => h)
  have c0 := hC.c0
  rw [hk] at c0
  have hlen := bB_len hL
  have HK := Lib.hid hk
  have HHI := Lib.hid hhi
  have kk : kn c.k = true := by rw [hk]; rfl
  have HKN := Lib.hid kk
  obtain ⟨ib, hib, hbz0, hbz1, hbz2⟩ := info_parts info_b
  have c1 := hC.c1
  have c2 := hC.c2
  have c3 := hC.c3
  rw [hbb] at c1
  rw [he] at c2
  rw [hl] at c3
  have HBBB := Lib.hid hbb
  have HE := Lib.hid (show bE c = 0 by simp [bE, HK.out, hb])
  have HF := Lib.hid (show fl c = 1 by simp [fl, HK.out, he, hbb, hl, bt])
  have hz : ((c.body.length : Int) == 0) = false := beq_eq_false_iff_ne.2 (fun h => hb (List.eq_nil_of_length_eq_zero (by omega)))
  obtain ⟨A18, p18, e18, h18⟩ := hC1.c18
  clear hk kk hhi hb he hbb hl h18
  have cc := (bC.cell 0).trans c0
  go_enter Try.func14, Try.ntmps14
  go_wp2_with fail
  refine (rknown_calls _ _ (by decide)).mono ?_
  rintro e wk ⟨rfl, hwk⟩
  rw [hwk]
  clear hwk cc
  generalize w.alloc (.cells cs 31) = w1 at *
  have H := NewP.nil w1.heap.size w1 (Nat.le_refl _)
  obtain ⟨kv, hkv⟩ : ∃ kv : Nat, kv = ([] : List Int).length := ⟨_, rfl⟩
  have HKV := Lib.hid hkv
  clear hkv
  have cc1 := (H.cell bC hbw (i := 1)).trans c1
  have cc2 := (H.cell bC hbw (i := 2)).trans c2
  have cc3 := (H.cell bC hbw (i := 3)).trans c3
  have cc18 := (H.cell bC hbw (i := 18)).trans e18
  go_upto_region 15 with fail
  clear cc1 cc2 cc3 cc18 hz
  have HBB := Lib.hid (show [] ++ b32 c.tsn ++ b16 c.st ++ b16 (c.mid % 65536) ++ b32 c.pp ++ c.body = bB c by simp [bB, HK.out])
  have cc := (H.cell bC hbw (i := 5)).trans hC.c5
  have ww := u64w hBd.tsn
  go_wp2_with fail
  -- c.tsn the number; 4 how many bytes; hBd.tsn its bounds; txt_b32: txt's name
  refine (rq_calls _ _ (c.tsn) 4 _ H.zero (hBd.tsn).1 (hBd.tsn).2 (by decide) (by simp [b16_len, b32_len]; try omega)).mono ?_
  rintro e wp ⟨Ap, kp, pp, rfl, hkp, HP⟩
  rw [txt_b32] at hkp HP
  have H' := H.app HP
  have HKV' := Lib.hid hkp
  clear H HKV HP hkp
  have H := H'
  have HKV := HKV'
  clear H' HKV'
  clear cc ww
  have cc := (H.cell bC hbw (i := 6)).trans hC.c6
  have ww := u64w (r16 hBd.st)
  go_wp2_with fail
  -- c.st the number; 2 how many bytes; (r16 hBd.st) its bounds; txt_b16: txt's name
  refine (rq_calls _ _ (c.st) 2 _ H.zero ((r16 hBd.st)).1 ((r16 hBd.st)).2 (by decide) (by simp [b16_len, b32_len]; try omega)).mono ?_
  rintro e wp ⟨Ap, kp, pp, rfl, hkp, HP⟩
  rw [txt_b16] at hkp HP
  have H' := H.app HP
  have HKV' := Lib.hid hkp
  clear H HKV HP hkp
  have H := H'
  have HKV := HKV'
  clear H' HKV'
  clear cc ww
  have hmm : 0 ≤ c.mid % 65536 ∧ c.mid % 65536 < 4294967296 := by omega
  have hm2 : c.mid.tmod 65536 = c.mid % 65536 := Int.tmod_eq_emod_of_nonneg hBd.mid.1
  have cc := (H.cell bC hbw (i := 7)).trans hC.c7
  have ww := u64w hmm
  go_wp2_with fail
  -- c.mid % 65536 the number; 2 how many bytes; hmm its bounds; txt_b16: txt's name
  refine (rq_calls _ _ (c.mid % 65536) 2 _ H.zero (hmm).1 (hmm).2 (by decide) (by simp [b16_len, b32_len]; try omega)).mono ?_
  rintro e wp ⟨Ap, kp, pp, rfl, hkp, HP⟩
  rw [txt_b16] at hkp HP
  have H' := H.app HP
  have HKV' := Lib.hid hkp
  clear H HKV HP hkp
  have H := H'
  have HKV := HKV'
  clear H' HKV'
  clear cc ww
  clear hm2 hmm
  have cc := (H.cell bC hbw (i := 8)).trans hC.c8
  have ww := u64w hBd.pp
  go_wp2_with fail
  -- c.pp the number; 4 how many bytes; hBd.pp its bounds; txt_b32: txt's name
  refine (rq_calls _ _ (c.pp) 4 _ H.zero (hBd.pp).1 (hBd.pp).2 (by decide) (by simp [b16_len, b32_len]; try omega)).mono ?_
  rintro e wp ⟨Ap, kp, pp, rfl, hkp, HP⟩
  rw [txt_b32] at hkp HP
  have H' := H.app HP
  have HKV' := Lib.hid hkp
  clear H HKV HP hkp
  have H := H'
  have HKV := HKV'
  clear H' HKV'
  clear cc ww
  -- the body behind the bytes [] ++ b32 c.tsn ++ b16 c.st ++ b16 (c.mid % 65536) ++ b32 c.pp
  have hCw := hC1.bl H.bel (Nat.le_trans HHI.out (Nat.le_of_lt hbw))
  obtain ⟨A18, p18, e18, h18⟩ := hCw.c18
  have cc := (H.cell bC hbw (i := 18)).trans e18
  obtain ⟨A18', c18', e18', -, -, -, rd18⟩ := h18
  injection e18' with e181 e182 e183
  subst e181; subst e183
  have hlb := hL.body
  have hlnb : ([] ++ b32 c.tsn ++ b16 c.st ++ b16 (c.mid % 65536) ++ b32 c.pp).length + c.body.length ≤ 140737488355328 := by simp [b16_len, b32_len]; omega
  have HNH := Lib.hid H
  clear hCw e182
  go_upto_region 72 with (at_builtin; refine wpList_append_b _ rfl (.tmp 291) (.tmp 293) _ rfl w1.heap.size 5 ib Try.underlying29 hib hbz0 hbz1 hbz2 _ ([] ++ b32 c.tsn ++ b16 c.st ++ b16 (c.mid % 65536) ++ b32 c.pp) rfl H.own _ _ _ _ _ c.body rfl rfl rd18 hlnb (Nat.le_trans H.hb H.bel.size) ?_; intro v3 wp hown hg hat; have H3 : NewP w1.heap.size w1 v3 ([] ++ b32 c.tsn ++ b16 c.st ++ b16 (c.mid % 65536) ++ b32 c.pp ++ c.body) wp := ⟨hown, Bl.trans HNH.out.bel (Bl.of_fr ((Fr.refl _ _).grown (S := fun k => w1.heap.size ≤ k) hg (fun k hk => .inl (OwnB.ge HNH.out.own k hk))) (Nat.le_trans HNH.out.hb HNH.out.bel.size) (fun k hk => hk)), HNH.out.hb⟩; obtain ⟨Ap, kp, pp, rfl, hkp⟩ := H3.shape; have HKV2 := Lib.hid hkp; clear hkp hown hg hat rd18 H cc)
  clear HKV
  have HKV := HKV2
  have H := H3
  clear H3 HKV2 hlnb hlb HNH
  -- H's bytes are the body's; the flags' value is 1 (HF: fl c = it), the kind 0
  rw [HBB.out] at H HKV
  have HKL := HKV.out
  obtain ⟨bs, hbs⟩ : ∃ bs, bB c = bs := ⟨_, rfl⟩
  have HBS := Lib.hid hbs
  rw [hbs] at H HKL hlen
  have hkb : kp ≤ 10000000000 := by omega
  have hwk : IntKind.i64.wrap ((kp : Int) + 4) = (kp : Int) + 4 := IntWalk.i64_in _ (by omega)
  have HKB := Lib.hid HKL
  have hs0 := H.bel.size
  have B5 := Bl.trans B0 (Bl.low H.bel (Nat.le_of_lt hbw))
  by_cases hl : 65535 < bs.length + 4
  · have he := cE_long HKN.out HE.out (by rw [HBS.out]; exact hl)
    have HE2 := Lib.hid he
    have hl2 : decide ((65535 : Int) < (kp : Int) + 4) = true := decide_eq_true (by omega)
    clear he hl HKL hbs HKV hkb
    go_wp2
    go_ret2
    unfold PutC
    rw [cO_bad (by rw [HE2.out]; decide), HE2.out]
    exact ⟨B5, none, 0, rfl, OwnB.nil _ _ _⟩
  · have he := cE_ok HKN.out HE.out (by rw [HBS.out]; exact hl)
    have HE2 := Lib.hid he
    have hl2 : decide ((65535 : Int) < (kp : Int) + 4) = false := decide_eq_false (by omega)
    have hb4 : 0 ≤ (kp : Int) + 4 ∧ (kp : Int) + 4 < 4294967296 := by omega
    have ww := u64w hb4
    have hlb : bs.length + 4 ≤ 65535 := by omega
    clear he hl HKL hbs HKV hkb hlen
    -- flags 1, kind 0, the length (kp : Int) + 4, the world wp
    go_upto_region 75 with fail
    have own2 : OwnB (wp.alloc (.cells #[.int .u8 0, .int .u8 1] 5)) wp.heap.size 5 (.slice (some ⟨wp.heap.size, 0, none⟩) 2 2) [0, 1] := ⟨rfl, .inr ⟨wp.heap.size, 2, #[.int .u8 0, .int .u8 1], rfl, Nat.le_refl _, heap_alloc_new wp _, Nat.le_refl _, (by decide), rfl, rfl⟩⟩
    have hb2 : wp.heap.size ≤ (wp.alloc (.cells #[.int .u8 0, .int .u8 1] 5)).heap.size := by simp
    have H2 : NewP wp.heap.size (wp.alloc (.cells #[.int .u8 0, .int .u8 1] 5)) (.slice (some ⟨wp.heap.size, 0, none⟩) 2 2) [0, 1] (wp.alloc (.cells #[.int .u8 0, .int .u8 1] 5)) := ⟨own2, Below.refl _ _, hb2⟩
    have HB2 : Below wp.heap.size wp (wp.alloc (.cells #[.int .u8 0, .int .u8 1] 5)) := (Below.refl _ wp).alloc (Nat.le_refl _) _
    generalize wp.alloc (.cells #[.int .u8 0, .int .u8 1] 5) = wout at *
    clear own2 hb2
    go_wp2_with fail
    refine (rq_calls _ _ ((kp : Int) + 4) 2 _ H2.zero hb4.1 hb4.2 (by decide) (by simp)).mono ?_
    rintro e ws ⟨As, ks, ps, rfl, hks, HS⟩
    rw [txt_b16] at hks HS
    have H3 := H2.app HS
    have HKS := Lib.hid hks
    have HBWR := Lib.hid HB2
    have HB3 := Bl.trans HB2 H3.bel
    have o3 := OwnB.fr H.own (Bl.fr HB3) (fun k h1 h2 => by have := OwnB.lt H.own k h1; omega)
    obtain ⟨A6, c6, e6, -, -, -, rd⟩ := SlB.of_own o3
    injection e6 with e61 e62 e63
    subst e61; subst e63
    have hln : ([0, 1] ++ b16 ((kp : Int) + 4)).length + bs.length ≤ 140737488355328 := by simp [b16_len]; omega
    clear H2 HS HB2 HB3 hks e62 o3 hl2 ww hwk
    have HN3 := Lib.hid H3
    go_wp2_with (at_builtin; refine wpList_append_b _ rfl (.tmp 309) (.tmp 310) _ rfl wp.heap.size 5 ib Try.underlying29 hib hbz0 hbz1 hbz2 _ ([0, 1] ++ b16 ((kp : Int) + 4)) rfl H3.own _ _ _ _ _ bs rfl HKB.out rd hln (Nat.le_trans H3.hb H3.bel.size) ?_; intro v7 w7 hown hg hat; have o7 : OwnB w7 wp.heap.size 5 v7 ([0, 1] ++ b16 ((kp : Int) + 4) ++ bs) := hown; have HB7 := Lib.hid (Bl.trans HN3.out.bel (Bl.of_fr ((Fr.refl _ ws).grown (S := fun k => wp.heap.size ≤ k) hg (fun k hk => .inl (OwnB.ge HN3.out.own k hk))) (Nat.le_trans HN3.out.hb HN3.out.bel.size) (fun k hk => hk))); obtain ⟨A7, n7, c7, rfl, hn7⟩ : ∃ A n c, v7 = .slice A n c ∧ n = (([0, 1] : List Int) ++ b16 ((kp : Int) + 4) ++ bs).length := (by obtain ⟨A, c, e, -⟩ := OwnB.slice o7; exact ⟨A, _, c, e, rfl⟩); clear hn7; clear hown hg hat rd H3)
    have CPD := rpad_calls _ _ 4 w7 (OwnB.low o7 (Nat.zero_le _)) (by simp [b16_len]; omega) (by decide)
    have hl7 : (([0, 1] : List Int) ++ b16 ((kp : Int) + 4) ++ bs).length = 4 + bs.length := by simp [b16_len]; omega
    rw [hl7] at CPD
    refine CPD.mono ?_
    rintro e w8 ⟨A8, k8, c8, rfl, hk8, HP8⟩
    have HZ : [0, 1] ++ b16 ((kp : Int) + 4) ++ bs ++ List.replicate (padTo (4 + bs.length) 4) 0 = cB c := by
      unfold cB
      rw [HK.out, HF.out, HBS.out, show (((bs.length + 4 : Nat) : Int)) = (kp : Int) + 4 by have h9 := HKB.out; omega, show padTo (4 + bs.length) 4 = (4 - (bs.length + 4) % 4) % 4 by unfold padTo; rw [if_neg (by decide)]; show (4 - (4 + bs.length) % 4) % 4 = _; rw [Nat.add_comm]]
    rw [HZ] at HP8 hk8
    have N8 : NewP wp.heap.size wout (.slice A8 k8 c8) (cB c) w8 := NewP.app ⟨o7, HB7.out, HN3.out.hb⟩ HP8
    have BF2 : Below w.heap.size w w8 := Bl.trans B5 (Bl.low (Bl.trans HBWR.out N8.bel) B5.size)
    have HK8 := Lib.hid hk8
    clear HP8 hk8 HZ CPD o7
    go_wp2
    go_ret2
    unfold PutC
    rw [cO_ok HE2.out, HE2.out]
    have hk8' := HK8.out
    subst hk8'
    exact ⟨BF2, A8, c8, rfl, OwnB.low N8.own B5.size⟩
set_option maxHeartbeats 4000000 in
set_option maxRecDepth 100000 in
theorem rput_0_2 (lo hi : Nat) (cs : Array Value) (c : Ck) (w : World) (hC : CkV w lo hi cs c) (hhi : hi ≤ w.heap.size) (hBd : CkB c) (hL : CkL c) (hk : c.k = 0) (hb : ¬ c.body = []) (he : c.e = false) (hbb : c.b = true) (hl : c.l = false) :
    Calls Try.prog 14 #[.agg cs] w (PutC w c) := by
  have hsz := hC.size
  have hbw : w.heap.size < (w.alloc (.cells cs 31)).heap.size := by simp
  have B0 : Below w.heap.size w (w.alloc (.cells cs 31)) := (Below.refl _ w).alloc (Nat.le_refl _) _
  have bC := Blk.new w cs 31
  have hC1 := hC.fr (S := nothing) ((Fr.refl _ w).alloc (.cells cs 31)) (fun _ _ _ h => h)
  have c0 := hC.c0
  rw [hk] at c0
  have hlen := bB_len hL
  have HK := Lib.hid hk
  have HHI := Lib.hid hhi
  have kk : kn c.k = true := by rw [hk]; rfl
  have HKN := Lib.hid kk
  obtain ⟨ib, hib, hbz0, hbz1, hbz2⟩ := info_parts info_b
  have c1 := hC.c1
  have c2 := hC.c2
  have c3 := hC.c3
  rw [hbb] at c1
  rw [he] at c2
  rw [hl] at c3
  have HBBB := Lib.hid hbb
  have HE := Lib.hid (show bE c = 0 by simp [bE, HK.out, hb])
  have HF := Lib.hid (show fl c = 2 by simp [fl, HK.out, he, hbb, hl, bt])
  have hz : ((c.body.length : Int) == 0) = false := beq_eq_false_iff_ne.2 (fun h => hb (List.eq_nil_of_length_eq_zero (by omega)))
  obtain ⟨A18, p18, e18, h18⟩ := hC1.c18
  clear hk kk hhi hb he hbb hl h18
  have cc := (bC.cell 0).trans c0
  go_enter Try.func14, Try.ntmps14
  go_wp2_with fail
  refine (rknown_calls _ _ (by decide)).mono ?_
  rintro e wk ⟨rfl, hwk⟩
  rw [hwk]
  clear hwk cc
  generalize w.alloc (.cells cs 31) = w1 at *
  have H := NewP.nil w1.heap.size w1 (Nat.le_refl _)
  obtain ⟨kv, hkv⟩ : ∃ kv : Nat, kv = ([] : List Int).length := ⟨_, rfl⟩
  have HKV := Lib.hid hkv
  clear hkv
  have cc1 := (H.cell bC hbw (i := 1)).trans c1
  have cc2 := (H.cell bC hbw (i := 2)).trans c2
  have cc3 := (H.cell bC hbw (i := 3)).trans c3
  have cc18 := (H.cell bC hbw (i := 18)).trans e18
  go_upto_region 15 with fail
  clear cc1 cc2 cc3 cc18 hz
  have HBB := Lib.hid (show [] ++ b32 c.tsn ++ b16 c.st ++ b16 (c.mid % 65536) ++ b32 c.pp ++ c.body = bB c by simp [bB, HK.out])
  have cc := (H.cell bC hbw (i := 5)).trans hC.c5
  have ww := u64w hBd.tsn
  go_wp2_with fail
  -- c.tsn the number; 4 how many bytes; hBd.tsn its bounds; txt_b32: txt's name
  refine (rq_calls _ _ (c.tsn) 4 _ H.zero (hBd.tsn).1 (hBd.tsn).2 (by decide) (by simp [b16_len, b32_len]; try omega)).mono ?_
  rintro e wp ⟨Ap, kp, pp, rfl, hkp, HP⟩
  rw [txt_b32] at hkp HP
  have H' := H.app HP
  have HKV' := Lib.hid hkp
  clear H HKV HP hkp
  have H := H'
  have HKV := HKV'
  clear H' HKV'
  clear cc ww
  have cc := (H.cell bC hbw (i := 6)).trans hC.c6
  have ww := u64w (r16 hBd.st)
  go_wp2_with fail
  -- c.st the number; 2 how many bytes; (r16 hBd.st) its bounds; txt_b16: txt's name
  refine (rq_calls _ _ (c.st) 2 _ H.zero ((r16 hBd.st)).1 ((r16 hBd.st)).2 (by decide) (by simp [b16_len, b32_len]; try omega)).mono ?_
  rintro e wp ⟨Ap, kp, pp, rfl, hkp, HP⟩
  rw [txt_b16] at hkp HP
  have H' := H.app HP
  have HKV' := Lib.hid hkp
  clear H HKV HP hkp
  have H := H'
  have HKV := HKV'
  clear H' HKV'
  clear cc ww
  have hmm : 0 ≤ c.mid % 65536 ∧ c.mid % 65536 < 4294967296 := by omega
  have hm2 : c.mid.tmod 65536 = c.mid % 65536 := Int.tmod_eq_emod_of_nonneg hBd.mid.1
  have cc := (H.cell bC hbw (i := 7)).trans hC.c7
  have ww := u64w hmm
  go_wp2_with fail
  -- c.mid % 65536 the number; 2 how many bytes; hmm its bounds; txt_b16: txt's name
  refine (rq_calls _ _ (c.mid % 65536) 2 _ H.zero (hmm).1 (hmm).2 (by decide) (by simp [b16_len, b32_len]; try omega)).mono ?_
  rintro e wp ⟨Ap, kp, pp, rfl, hkp, HP⟩
  rw [txt_b16] at hkp HP
  have H' := H.app HP
  have HKV' := Lib.hid hkp
  clear H HKV HP hkp
  have H := H'
  have HKV := HKV'
  clear H' HKV'
  clear cc ww
  clear hm2 hmm
  have cc := (H.cell bC hbw (i := 8)).trans hC.c8
  have ww := u64w hBd.pp
  go_wp2_with fail
  -- c.pp the number; 4 how many bytes; hBd.pp its bounds; txt_b32: txt's name
  refine (rq_calls _ _ (c.pp) 4 _ H.zero (hBd.pp).1 (hBd.pp).2 (by decide) (by simp [b16_len, b32_len]; try omega)).mono ?_
  rintro e wp ⟨Ap, kp, pp, rfl, hkp, HP⟩
  rw [txt_b32] at hkp HP
  have H' := H.app HP
  have HKV' := Lib.hid hkp
  clear H HKV HP hkp
  have H := H'
  have HKV := HKV'
  clear H' HKV'
  clear cc ww
  -- the body behind the bytes [] ++ b32 c.tsn ++ b16 c.st ++ b16 (c.mid % 65536) ++ b32 c.pp
  have hCw := hC1.bl H.bel (Nat.le_trans HHI.out (Nat.le_of_lt hbw))
  obtain ⟨A18, p18, e18, h18⟩ := hCw.c18
  have cc := (H.cell bC hbw (i := 18)).trans e18
  obtain ⟨A18', c18', e18', -, -, -, rd18⟩ := h18
  injection e18' with e181 e182 e183
  subst e181; subst e183
  have hlb := hL.body
  have hlnb : ([] ++ b32 c.tsn ++ b16 c.st ++ b16 (c.mid % 65536) ++ b32 c.pp).length + c.body.length ≤ 140737488355328 := by simp [b16_len, b32_len]; omega
  have HNH := Lib.hid H
  clear hCw e182
  go_upto_region 72 with (at_builtin; refine wpList_append_b _ rfl (.tmp 291) (.tmp 293) _ rfl w1.heap.size 5 ib Try.underlying29 hib hbz0 hbz1 hbz2 _ ([] ++ b32 c.tsn ++ b16 c.st ++ b16 (c.mid % 65536) ++ b32 c.pp) rfl H.own _ _ _ _ _ c.body rfl rfl rd18 hlnb (Nat.le_trans H.hb H.bel.size) ?_; intro v3 wp hown hg hat; have H3 : NewP w1.heap.size w1 v3 ([] ++ b32 c.tsn ++ b16 c.st ++ b16 (c.mid % 65536) ++ b32 c.pp ++ c.body) wp := ⟨hown, Bl.trans HNH.out.bel (Bl.of_fr ((Fr.refl _ _).grown (S := fun k => w1.heap.size ≤ k) hg (fun k hk => .inl (OwnB.ge HNH.out.own k hk))) (Nat.le_trans HNH.out.hb HNH.out.bel.size) (fun k hk => hk)), HNH.out.hb⟩; obtain ⟨Ap, kp, pp, rfl, hkp⟩ := H3.shape; have HKV2 := Lib.hid hkp; clear hkp hown hg hat rd18 H cc)
  clear HKV
  have HKV := HKV2
  have H := H3
  clear H3 HKV2 hlnb hlb HNH
  -- H's bytes are the body's; the flags' value is 2 (HF: fl c = it), the kind 0
  rw [HBB.out] at H HKV
  have HKL := HKV.out
  obtain ⟨bs, hbs⟩ : ∃ bs, bB c = bs := ⟨_, rfl⟩
  have HBS := Lib.hid hbs
  rw [hbs] at H HKL hlen
  have hkb : kp ≤ 10000000000 := by omega
  have hwk : IntKind.i64.wrap ((kp : Int) + 4) = (kp : Int) + 4 := IntWalk.i64_in _ (by omega)
  have HKB := Lib.hid HKL
  have hs0 := H.bel.size
  have B5 := Bl.trans B0 (Bl.low H.bel (Nat.le_of_lt hbw))
  by_cases hl : 65535 < bs.length + 4
  · have he := cE_long HKN.out HE.out (by rw [HBS.out]; exact hl)
    have HE2 := Lib.hid he
    have hl2 : decide ((65535 : Int) < (kp : Int) + 4) = true := decide_eq_true (by omega)
    clear he hl HKL hbs HKV hkb
    go_wp2
    go_ret2
    unfold PutC
    rw [cO_bad (by rw [HE2.out]; decide), HE2.out]
    exact ⟨B5, none, 0, rfl, OwnB.nil _ _ _⟩
  · have he := cE_ok HKN.out HE.out (by rw [HBS.out]; exact hl)
    have HE2 := Lib.hid he
    have hl2 : decide ((65535 : Int) < (kp : Int) + 4) = false := decide_eq_false (by omega)
    have hb4 : 0 ≤ (kp : Int) + 4 ∧ (kp : Int) + 4 < 4294967296 := by omega
    have ww := u64w hb4
    have hlb : bs.length + 4 ≤ 65535 := by omega
    clear he hl HKL hbs HKV hkb hlen
    -- flags 2, kind 0, the length (kp : Int) + 4, the world wp
    go_upto_region 75 with fail
    have own2 : OwnB (wp.alloc (.cells #[.int .u8 0, .int .u8 2] 5)) wp.heap.size 5 (.slice (some ⟨wp.heap.size, 0, none⟩) 2 2) [0, 2] := ⟨rfl, .inr ⟨wp.heap.size, 2, #[.int .u8 0, .int .u8 2], rfl, Nat.le_refl _, heap_alloc_new wp _, Nat.le_refl _, (by decide), rfl, rfl⟩⟩
    have hb2 : wp.heap.size ≤ (wp.alloc (.cells #[.int .u8 0, .int .u8 2] 5)).heap.size := by simp
    have H2 : NewP wp.heap.size (wp.alloc (.cells #[.int .u8 0, .int .u8 2] 5)) (.slice (some ⟨wp.heap.size, 0, none⟩) 2 2) [0, 2] (wp.alloc (.cells #[.int .u8 0, .int .u8 2] 5)) := ⟨own2, Below.refl _ _, hb2⟩
    have HB2 : Below wp.heap.size wp (wp.alloc (.cells #[.int .u8 0, .int .u8 2] 5)) := (Below.refl _ wp).alloc (Nat.le_refl _) _
    generalize wp.alloc (.cells #[.int .u8 0, .int .u8 2] 5) = wout at *
    clear own2 hb2
    go_wp2_with fail
    refine (rq_calls _ _ ((kp : Int) + 4) 2 _ H2.zero hb4.1 hb4.2 (by decide) (by simp)).mono ?_
    rintro e ws ⟨As, ks, ps, rfl, hks, HS⟩
    rw [txt_b16] at hks HS
    have H3 := H2.app HS
    have HKS := Lib.hid hks
    have HBWR := Lib.hid HB2
    have HB3 := Bl.trans HB2 H3.bel
    have o3 := OwnB.fr H.own (Bl.fr HB3) (fun k h1 h2 => by have := OwnB.lt H.own k h1; omega)
    obtain ⟨A6, c6, e6, -, -, -, rd⟩ := SlB.of_own o3
    injection e6 with e61 e62 e63
    subst e61; subst e63
    have hln : ([0, 2] ++ b16 ((kp : Int) + 4)).length + bs.length ≤ 140737488355328 := by simp [b16_len]; omega
    clear H2 HS HB2 HB3 hks e62 o3 hl2 ww hwk
    have HN3 := Lib.hid H3
    go_wp2_with (at_builtin; refine wpList_append_b _ rfl (.tmp 309) (.tmp 310) _ rfl wp.heap.size 5 ib Try.underlying29 hib hbz0 hbz1 hbz2 _ ([0, 2] ++ b16 ((kp : Int) + 4)) rfl H3.own _ _ _ _ _ bs rfl HKB.out rd hln (Nat.le_trans H3.hb H3.bel.size) ?_; intro v7 w7 hown hg hat; have o7 : OwnB w7 wp.heap.size 5 v7 ([0, 2] ++ b16 ((kp : Int) + 4) ++ bs) := hown; have HB7 := Lib.hid (Bl.trans HN3.out.bel (Bl.of_fr ((Fr.refl _ ws).grown (S := fun k => wp.heap.size ≤ k) hg (fun k hk => .inl (OwnB.ge HN3.out.own k hk))) (Nat.le_trans HN3.out.hb HN3.out.bel.size) (fun k hk => hk))); obtain ⟨A7, n7, c7, rfl, hn7⟩ : ∃ A n c, v7 = .slice A n c ∧ n = (([0, 2] : List Int) ++ b16 ((kp : Int) + 4) ++ bs).length := (by obtain ⟨A, c, e, -⟩ := OwnB.slice o7; exact ⟨A, _, c, e, rfl⟩); clear hn7; clear hown hg hat rd H3)
    have CPD := rpad_calls _ _ 4 w7 (OwnB.low o7 (Nat.zero_le _)) (by simp [b16_len]; omega) (by decide)
    have hl7 : (([0, 2] : List Int) ++ b16 ((kp : Int) + 4) ++ bs).length = 4 + bs.length := by simp [b16_len]; omega
    rw [hl7] at CPD
    refine CPD.mono ?_
    rintro e w8 ⟨A8, k8, c8, rfl, hk8, HP8⟩
    have HZ : [0, 2] ++ b16 ((kp : Int) + 4) ++ bs ++ List.replicate (padTo (4 + bs.length) 4) 0 = cB c := by
      unfold cB
      rw [HK.out, HF.out, HBS.out, show (((bs.length + 4 : Nat) : Int)) = (kp : Int) + 4 by have h9 := HKB.out; omega, show padTo (4 + bs.length) 4 = (4 - (bs.length + 4) % 4) % 4 by unfold padTo; rw [if_neg (by decide)]; show (4 - (4 + bs.length) % 4) % 4 = _; rw [Nat.add_comm]]
    rw [HZ] at HP8 hk8
    have N8 : NewP wp.heap.size wout (.slice A8 k8 c8) (cB c) w8 := NewP.app ⟨o7, HB7.out, HN3.out.hb⟩ HP8
    have BF2 : Below w.heap.size w w8 := Bl.trans B5 (Bl.low (Bl.trans HBWR.out N8.bel) B5.size)
    have HK8 := Lib.hid hk8
    clear HP8 hk8 HZ CPD o7
    go_wp2
    go_ret2
    unfold PutC
    rw [cO_ok HE2.out, HE2.out]
    have hk8' := HK8.out
    subst hk8'
    exact ⟨BF2, A8, c8, rfl, OwnB.low N8.own B5.size⟩
set_option maxHeartbeats 4000000 in
set_option maxRecDepth 100000 in
theorem rput_0_3 (lo hi : Nat) (cs : Array Value) (c : Ck) (w : World) (hC : CkV w lo hi cs c) (hhi : hi ≤ w.heap.size) (hBd : CkB c) (hL : CkL c) (hk : c.k = 0) (hb : ¬ c.body = []) (he : c.e = true) (hbb : c.b = true) (hl : c.l = false) :
    Calls Try.prog 14 #[.agg cs] w (PutC w c) := by
  have hsz := hC.size
  have hbw : w.heap.size < (w.alloc (.cells cs 31)).heap.size := by simp
  have B0 : Below w.heap.size w (w.alloc (.cells cs 31)) := (Below.refl _ w).alloc (Nat.le_refl _) _
  have bC := Blk.new w cs 31
  have hC1 := hC.fr (S := nothing) ((Fr.refl _ w).alloc (.cells cs 31)) (fun _ _ _ h => h)
  have c0 := hC.c0
  rw [hk] at c0
  have hlen := bB_len hL
  have HK := Lib.hid hk
  have HHI := Lib.hid hhi
  have kk : kn c.k = true := by rw [hk]; rfl
  have HKN := Lib.hid kk
  obtain ⟨ib, hib, hbz0, hbz1, hbz2⟩ := info_parts info_b
  have c1 := hC.c1
  have c2 := hC.c2
  have c3 := hC.c3
  rw [hbb] at c1
  rw [he] at c2
  rw [hl] at c3
  have HBBB := Lib.hid hbb
  have HE := Lib.hid (show bE c = 0 by simp [bE, HK.out, hb])
  have HF := Lib.hid (show fl c = 3 by simp [fl, HK.out, he, hbb, hl, bt])
  have hz : ((c.body.length : Int) == 0) = false := beq_eq_false_iff_ne.2 (fun h => hb (List.eq_nil_of_length_eq_zero (by omega)))
  obtain ⟨A18, p18, e18, h18⟩ := hC1.c18
  clear hk kk hhi hb he hbb hl h18
  have cc := (bC.cell 0).trans c0
  go_enter Try.func14, Try.ntmps14
  go_wp2_with fail
  refine (rknown_calls _ _ (by decide)).mono ?_
  rintro e wk ⟨rfl, hwk⟩
  rw [hwk]
  clear hwk cc
  generalize w.alloc (.cells cs 31) = w1 at *
  have H := NewP.nil w1.heap.size w1 (Nat.le_refl _)
  obtain ⟨kv, hkv⟩ : ∃ kv : Nat, kv = ([] : List Int).length := ⟨_, rfl⟩
  have HKV := Lib.hid hkv
  clear hkv
  have cc1 := (H.cell bC hbw (i := 1)).trans c1
  have cc2 := (H.cell bC hbw (i := 2)).trans c2
  have cc3 := (H.cell bC hbw (i := 3)).trans c3
  have cc18 := (H.cell bC hbw (i := 18)).trans e18
  go_upto_region 15 with fail
  clear cc1 cc2 cc3 cc18 hz
  have HBB := Lib.hid (show [] ++ b32 c.tsn ++ b16 c.st ++ b16 (c.mid % 65536) ++ b32 c.pp ++ c.body = bB c by simp [bB, HK.out])
  have cc := (H.cell bC hbw (i := 5)).trans hC.c5
  have ww := u64w hBd.tsn
  go_wp2_with fail
  -- c.tsn the number; 4 how many bytes; hBd.tsn its bounds; txt_b32: txt's name
  refine (rq_calls _ _ (c.tsn) 4 _ H.zero (hBd.tsn).1 (hBd.tsn).2 (by decide) (by simp [b16_len, b32_len]; try omega)).mono ?_
  rintro e wp ⟨Ap, kp, pp, rfl, hkp, HP⟩
  rw [txt_b32] at hkp HP
  have H' := H.app HP
  have HKV' := Lib.hid hkp
  clear H HKV HP hkp
  have H := H'
  have HKV := HKV'
  clear H' HKV'
  clear cc ww
  have cc := (H.cell bC hbw (i := 6)).trans hC.c6
  have ww := u64w (r16 hBd.st)
  go_wp2_with fail
  -- c.st the number; 2 how many bytes; (r16 hBd.st) its bounds; txt_b16: txt's name
  refine (rq_calls _ _ (c.st) 2 _ H.zero ((r16 hBd.st)).1 ((r16 hBd.st)).2 (by decide) (by simp [b16_len, b32_len]; try omega)).mono ?_
  rintro e wp ⟨Ap, kp, pp, rfl, hkp, HP⟩
  rw [txt_b16] at hkp HP
  have H' := H.app HP
  have HKV' := Lib.hid hkp
  clear H HKV HP hkp
  have H := H'
  have HKV := HKV'
  clear H' HKV'
  clear cc ww
  have hmm : 0 ≤ c.mid % 65536 ∧ c.mid % 65536 < 4294967296 := by omega
  have hm2 : c.mid.tmod 65536 = c.mid % 65536 := Int.tmod_eq_emod_of_nonneg hBd.mid.1
  have cc := (H.cell bC hbw (i := 7)).trans hC.c7
  have ww := u64w hmm
  go_wp2_with fail
  -- c.mid % 65536 the number; 2 how many bytes; hmm its bounds; txt_b16: txt's name
  refine (rq_calls _ _ (c.mid % 65536) 2 _ H.zero (hmm).1 (hmm).2 (by decide) (by simp [b16_len, b32_len]; try omega)).mono ?_
  rintro e wp ⟨Ap, kp, pp, rfl, hkp, HP⟩
  rw [txt_b16] at hkp HP
  have H' := H.app HP
  have HKV' := Lib.hid hkp
  clear H HKV HP hkp
  have H := H'
  have HKV := HKV'
  clear H' HKV'
  clear cc ww
  clear hm2 hmm
  have cc := (H.cell bC hbw (i := 8)).trans hC.c8
  have ww := u64w hBd.pp
  go_wp2_with fail
  -- c.pp the number; 4 how many bytes; hBd.pp its bounds; txt_b32: txt's name
  refine (rq_calls _ _ (c.pp) 4 _ H.zero (hBd.pp).1 (hBd.pp).2 (by decide) (by simp [b16_len, b32_len]; try omega)).mono ?_
  rintro e wp ⟨Ap, kp, pp, rfl, hkp, HP⟩
  rw [txt_b32] at hkp HP
  have H' := H.app HP
  have HKV' := Lib.hid hkp
  clear H HKV HP hkp
  have H := H'
  have HKV := HKV'
  clear H' HKV'
  clear cc ww
  -- the body behind the bytes [] ++ b32 c.tsn ++ b16 c.st ++ b16 (c.mid % 65536) ++ b32 c.pp
  have hCw := hC1.bl H.bel (Nat.le_trans HHI.out (Nat.le_of_lt hbw))
  obtain ⟨A18, p18, e18, h18⟩ := hCw.c18
  have cc := (H.cell bC hbw (i := 18)).trans e18
  obtain ⟨A18', c18', e18', -, -, -, rd18⟩ := h18
  injection e18' with e181 e182 e183
  subst e181; subst e183
  have hlb := hL.body
  have hlnb : ([] ++ b32 c.tsn ++ b16 c.st ++ b16 (c.mid % 65536) ++ b32 c.pp).length + c.body.length ≤ 140737488355328 := by simp [b16_len, b32_len]; omega
  have HNH := Lib.hid H
  clear hCw e182
  go_upto_region 72 with (at_builtin; refine wpList_append_b _ rfl (.tmp 291) (.tmp 293) _ rfl w1.heap.size 5 ib Try.underlying29 hib hbz0 hbz1 hbz2 _ ([] ++ b32 c.tsn ++ b16 c.st ++ b16 (c.mid % 65536) ++ b32 c.pp) rfl H.own _ _ _ _ _ c.body rfl rfl rd18 hlnb (Nat.le_trans H.hb H.bel.size) ?_; intro v3 wp hown hg hat; have H3 : NewP w1.heap.size w1 v3 ([] ++ b32 c.tsn ++ b16 c.st ++ b16 (c.mid % 65536) ++ b32 c.pp ++ c.body) wp := ⟨hown, Bl.trans HNH.out.bel (Bl.of_fr ((Fr.refl _ _).grown (S := fun k => w1.heap.size ≤ k) hg (fun k hk => .inl (OwnB.ge HNH.out.own k hk))) (Nat.le_trans HNH.out.hb HNH.out.bel.size) (fun k hk => hk)), HNH.out.hb⟩; obtain ⟨Ap, kp, pp, rfl, hkp⟩ := H3.shape; have HKV2 := Lib.hid hkp; clear hkp hown hg hat rd18 H cc)
  clear HKV
  have HKV := HKV2
  have H := H3
  clear H3 HKV2 hlnb hlb HNH
  -- H's bytes are the body's; the flags' value is 3 (HF: fl c = it), the kind 0
  rw [HBB.out] at H HKV
  have HKL := HKV.out
  obtain ⟨bs, hbs⟩ : ∃ bs, bB c = bs := ⟨_, rfl⟩
  have HBS := Lib.hid hbs
  rw [hbs] at H HKL hlen
  have hkb : kp ≤ 10000000000 := by omega
  have hwk : IntKind.i64.wrap ((kp : Int) + 4) = (kp : Int) + 4 := IntWalk.i64_in _ (by omega)
  have HKB := Lib.hid HKL
  have hs0 := H.bel.size
  have B5 := Bl.trans B0 (Bl.low H.bel (Nat.le_of_lt hbw))
  by_cases hl : 65535 < bs.length + 4
  · have he := cE_long HKN.out HE.out (by rw [HBS.out]; exact hl)
    have HE2 := Lib.hid he
    have hl2 : decide ((65535 : Int) < (kp : Int) + 4) = true := decide_eq_true (by omega)
    clear he hl HKL hbs HKV hkb
    go_wp2
    go_ret2
    unfold PutC
    rw [cO_bad (by rw [HE2.out]; decide), HE2.out]
    exact ⟨B5, none, 0, rfl, OwnB.nil _ _ _⟩
  · have he := cE_ok HKN.out HE.out (by rw [HBS.out]; exact hl)
    have HE2 := Lib.hid he
    have hl2 : decide ((65535 : Int) < (kp : Int) + 4) = false := decide_eq_false (by omega)
    have hb4 : 0 ≤ (kp : Int) + 4 ∧ (kp : Int) + 4 < 4294967296 := by omega
    have ww := u64w hb4
    have hlb : bs.length + 4 ≤ 65535 := by omega
    clear he hl HKL hbs HKV hkb hlen
    -- flags 3, kind 0, the length (kp : Int) + 4, the world wp
    go_upto_region 75 with fail
    have own2 : OwnB (wp.alloc (.cells #[.int .u8 0, .int .u8 3] 5)) wp.heap.size 5 (.slice (some ⟨wp.heap.size, 0, none⟩) 2 2) [0, 3] := ⟨rfl, .inr ⟨wp.heap.size, 2, #[.int .u8 0, .int .u8 3], rfl, Nat.le_refl _, heap_alloc_new wp _, Nat.le_refl _, (by decide), rfl, rfl⟩⟩
    have hb2 : wp.heap.size ≤ (wp.alloc (.cells #[.int .u8 0, .int .u8 3] 5)).heap.size := by simp
    have H2 : NewP wp.heap.size (wp.alloc (.cells #[.int .u8 0, .int .u8 3] 5)) (.slice (some ⟨wp.heap.size, 0, none⟩) 2 2) [0, 3] (wp.alloc (.cells #[.int .u8 0, .int .u8 3] 5)) := ⟨own2, Below.refl _ _, hb2⟩
    have HB2 : Below wp.heap.size wp (wp.alloc (.cells #[.int .u8 0, .int .u8 3] 5)) := (Below.refl _ wp).alloc (Nat.le_refl _) _
    generalize wp.alloc (.cells #[.int .u8 0, .int .u8 3] 5) = wout at *
    clear own2 hb2
    go_wp2_with fail
    refine (rq_calls _ _ ((kp : Int) + 4) 2 _ H2.zero hb4.1 hb4.2 (by decide) (by simp)).mono ?_
    rintro e ws ⟨As, ks, ps, rfl, hks, HS⟩
    rw [txt_b16] at hks HS
    have H3 := H2.app HS
    have HKS := Lib.hid hks
    have HBWR := Lib.hid HB2
    have HB3 := Bl.trans HB2 H3.bel
    have o3 := OwnB.fr H.own (Bl.fr HB3) (fun k h1 h2 => by have := OwnB.lt H.own k h1; omega)
    obtain ⟨A6, c6, e6, -, -, -, rd⟩ := SlB.of_own o3
    injection e6 with e61 e62 e63
    subst e61; subst e63
    have hln : ([0, 3] ++ b16 ((kp : Int) + 4)).length + bs.length ≤ 140737488355328 := by simp [b16_len]; omega
    clear H2 HS HB2 HB3 hks e62 o3 hl2 ww hwk
    have HN3 := Lib.hid H3
    go_wp2_with (at_builtin; refine wpList_append_b _ rfl (.tmp 309) (.tmp 310) _ rfl wp.heap.size 5 ib Try.underlying29 hib hbz0 hbz1 hbz2 _ ([0, 3] ++ b16 ((kp : Int) + 4)) rfl H3.own _ _ _ _ _ bs rfl HKB.out rd hln (Nat.le_trans H3.hb H3.bel.size) ?_; intro v7 w7 hown hg hat; have o7 : OwnB w7 wp.heap.size 5 v7 ([0, 3] ++ b16 ((kp : Int) + 4) ++ bs) := hown; have HB7 := Lib.hid (Bl.trans HN3.out.bel (Bl.of_fr ((Fr.refl _ ws).grown (S := fun k => wp.heap.size ≤ k) hg (fun k hk => .inl (OwnB.ge HN3.out.own k hk))) (Nat.le_trans HN3.out.hb HN3.out.bel.size) (fun k hk => hk))); obtain ⟨A7, n7, c7, rfl, hn7⟩ : ∃ A n c, v7 = .slice A n c ∧ n = (([0, 3] : List Int) ++ b16 ((kp : Int) + 4) ++ bs).length := (by obtain ⟨A, c, e, -⟩ := OwnB.slice o7; exact ⟨A, _, c, e, rfl⟩); clear hn7; clear hown hg hat rd H3)
    have CPD := rpad_calls _ _ 4 w7 (OwnB.low o7 (Nat.zero_le _)) (by simp [b16_len]; omega) (by decide)
    have hl7 : (([0, 3] : List Int) ++ b16 ((kp : Int) + 4) ++ bs).length = 4 + bs.length := by simp [b16_len]; omega
    rw [hl7] at CPD
    refine CPD.mono ?_
    rintro e w8 ⟨A8, k8, c8, rfl, hk8, HP8⟩
    have HZ : [0, 3] ++ b16 ((kp : Int) + 4) ++ bs ++ List.replicate (padTo (4 + bs.length) 4) 0 = cB c := by
      unfold cB
      rw [HK.out, HF.out, HBS.out, show (((bs.length + 4 : Nat) : Int)) = (kp : Int) + 4 by have h9 := HKB.out; omega, show padTo (4 + bs.length) 4 = (4 - (bs.length + 4) % 4) % 4 by unfold padTo; rw [if_neg (by decide)]; show (4 - (4 + bs.length) % 4) % 4 = _; rw [Nat.add_comm]]
    rw [HZ] at HP8 hk8
    have N8 : NewP wp.heap.size wout (.slice A8 k8 c8) (cB c) w8 := NewP.app ⟨o7, HB7.out, HN3.out.hb⟩ HP8
    have BF2 : Below w.heap.size w w8 := Bl.trans B5 (Bl.low (Bl.trans HBWR.out N8.bel) B5.size)
    have HK8 := Lib.hid hk8
    clear HP8 hk8 HZ CPD o7
    go_wp2
    go_ret2
    unfold PutC
    rw [cO_ok HE2.out, HE2.out]
    have hk8' := HK8.out
    subst hk8'
    exact ⟨BF2, A8, c8, rfl, OwnB.low N8.own B5.size⟩
set_option maxHeartbeats 4000000 in
set_option maxRecDepth 100000 in
theorem rput_0_4 (lo hi : Nat) (cs : Array Value) (c : Ck) (w : World) (hC : CkV w lo hi cs c) (hhi : hi ≤ w.heap.size) (hBd : CkB c) (hL : CkL c) (hk : c.k = 0) (hb : ¬ c.body = []) (he : c.e = false) (hbb : c.b = false) (hl : c.l = true) :
    Calls Try.prog 14 #[.agg cs] w (PutC w c) := by
  have hsz := hC.size
  have hbw : w.heap.size < (w.alloc (.cells cs 31)).heap.size := by simp
  have B0 : Below w.heap.size w (w.alloc (.cells cs 31)) := (Below.refl _ w).alloc (Nat.le_refl _) _
  have bC := Blk.new w cs 31
  have hC1 := hC.fr (S := nothing) ((Fr.refl _ w).alloc (.cells cs 31)) (fun _ _ _ h => h)
  have c0 := hC.c0
  rw [hk] at c0
  have hlen := bB_len hL
  have HK := Lib.hid hk
  have HHI := Lib.hid hhi
  have kk : kn c.k = true := by rw [hk]; rfl
  have HKN := Lib.hid kk
  obtain ⟨ib, hib, hbz0, hbz1, hbz2⟩ := info_parts info_b
  have c1 := hC.c1
  have c2 := hC.c2
  have c3 := hC.c3
  rw [hbb] at c1
  rw [he] at c2
  rw [hl] at c3
  have HBBB := Lib.hid hbb
  have HE := Lib.hid (show bE c = 0 by simp [bE, HK.out, hb])
  have HF := Lib.hid (show fl c = 4 by simp [fl, HK.out, he, hbb, hl, bt])
  have hz : ((c.body.length : Int) == 0) = false := beq_eq_false_iff_ne.2 (fun h => hb (List.eq_nil_of_length_eq_zero (by omega)))
  obtain ⟨A18, p18, e18, h18⟩ := hC1.c18
  clear hk kk hhi hb he hbb hl h18
  have cc := (bC.cell 0).trans c0
  go_enter Try.func14, Try.ntmps14
  go_wp2_with fail
  refine (rknown_calls _ _ (by decide)).mono ?_
  rintro e wk ⟨rfl, hwk⟩
  rw [hwk]
  clear hwk cc
  generalize w.alloc (.cells cs 31) = w1 at *
  have H := NewP.nil w1.heap.size w1 (Nat.le_refl _)
  obtain ⟨kv, hkv⟩ : ∃ kv : Nat, kv = ([] : List Int).length := ⟨_, rfl⟩
  have HKV := Lib.hid hkv
  clear hkv
  have cc1 := (H.cell bC hbw (i := 1)).trans c1
  have cc2 := (H.cell bC hbw (i := 2)).trans c2
  have cc3 := (H.cell bC hbw (i := 3)).trans c3
  have cc18 := (H.cell bC hbw (i := 18)).trans e18
  go_upto_region 15 with fail
  clear cc1 cc2 cc3 cc18 hz
  have HBB := Lib.hid (show [] ++ b32 c.tsn ++ b16 c.st ++ b16 (c.mid % 65536) ++ b32 c.pp ++ c.body = bB c by simp [bB, HK.out])
  have cc := (H.cell bC hbw (i := 5)).trans hC.c5
  have ww := u64w hBd.tsn
  go_wp2_with fail
  -- c.tsn the number; 4 how many bytes; hBd.tsn its bounds; txt_b32: txt's name
  refine (rq_calls _ _ (c.tsn) 4 _ H.zero (hBd.tsn).1 (hBd.tsn).2 (by decide) (by simp [b16_len, b32_len]; try omega)).mono ?_
  rintro e wp ⟨Ap, kp, pp, rfl, hkp, HP⟩
  rw [txt_b32] at hkp HP
  have H' := H.app HP
  have HKV' := Lib.hid hkp
  clear H HKV HP hkp
  have H := H'
  have HKV := HKV'
  clear H' HKV'
  clear cc ww
  have cc := (H.cell bC hbw (i := 6)).trans hC.c6
  have ww := u64w (r16 hBd.st)
  go_wp2_with fail
  -- c.st the number; 2 how many bytes; (r16 hBd.st) its bounds; txt_b16: txt's name
  refine (rq_calls _ _ (c.st) 2 _ H.zero ((r16 hBd.st)).1 ((r16 hBd.st)).2 (by decide) (by simp [b16_len, b32_len]; try omega)).mono ?_
  rintro e wp ⟨Ap, kp, pp, rfl, hkp, HP⟩
  rw [txt_b16] at hkp HP
  have H' := H.app HP
  have HKV' := Lib.hid hkp
  clear H HKV HP hkp
  have H := H'
  have HKV := HKV'
  clear H' HKV'
  clear cc ww
  have hmm : 0 ≤ c.mid % 65536 ∧ c.mid % 65536 < 4294967296 := by omega
  have hm2 : c.mid.tmod 65536 = c.mid % 65536 := Int.tmod_eq_emod_of_nonneg hBd.mid.1
  have cc := (H.cell bC hbw (i := 7)).trans hC.c7
  have ww := u64w hmm
  go_wp2_with fail
  -- c.mid % 65536 the number; 2 how many bytes; hmm its bounds; txt_b16: txt's name
  refine (rq_calls _ _ (c.mid % 65536) 2 _ H.zero (hmm).1 (hmm).2 (by decide) (by simp [b16_len, b32_len]; try omega)).mono ?_
  rintro e wp ⟨Ap, kp, pp, rfl, hkp, HP⟩
  rw [txt_b16] at hkp HP
  have H' := H.app HP
  have HKV' := Lib.hid hkp
  clear H HKV HP hkp
  have H := H'
  have HKV := HKV'
  clear H' HKV'
  clear cc ww
  clear hm2 hmm
  have cc := (H.cell bC hbw (i := 8)).trans hC.c8
  have ww := u64w hBd.pp
  go_wp2_with fail
  -- c.pp the number; 4 how many bytes; hBd.pp its bounds; txt_b32: txt's name
  refine (rq_calls _ _ (c.pp) 4 _ H.zero (hBd.pp).1 (hBd.pp).2 (by decide) (by simp [b16_len, b32_len]; try omega)).mono ?_
  rintro e wp ⟨Ap, kp, pp, rfl, hkp, HP⟩
  rw [txt_b32] at hkp HP
  have H' := H.app HP
  have HKV' := Lib.hid hkp
  clear H HKV HP hkp
  have H := H'
  have HKV := HKV'
  clear H' HKV'
  clear cc ww
  -- the body behind the bytes [] ++ b32 c.tsn ++ b16 c.st ++ b16 (c.mid % 65536) ++ b32 c.pp
  have hCw := hC1.bl H.bel (Nat.le_trans HHI.out (Nat.le_of_lt hbw))
  obtain ⟨A18, p18, e18, h18⟩ := hCw.c18
  have cc := (H.cell bC hbw (i := 18)).trans e18
  obtain ⟨A18', c18', e18', -, -, -, rd18⟩ := h18
  injection e18' with e181 e182 e183
  subst e181; subst e183
  have hlb := hL.body
  have hlnb : ([] ++ b32 c.tsn ++ b16 c.st ++ b16 (c.mid % 65536) ++ b32 c.pp).length + c.body.length ≤ 140737488355328 := by simp [b16_len, b32_len]; omega
  have HNH := Lib.hid H
  clear hCw e182
  go_upto_region 72 with (at_builtin; refine wpList_append_b _ rfl (.tmp 291) (.tmp 293) _ rfl w1.heap.size 5 ib Try.underlying29 hib hbz0 hbz1 hbz2 _ ([] ++ b32 c.tsn ++ b16 c.st ++ b16 (c.mid % 65536) ++ b32 c.pp) rfl H.own _ _ _ _ _ c.body rfl rfl rd18 hlnb (Nat.le_trans H.hb H.bel.size) ?_; intro v3 wp hown hg hat; have H3 : NewP w1.heap.size w1 v3 ([] ++ b32 c.tsn ++ b16 c.st ++ b16 (c.mid % 65536) ++ b32 c.pp ++ c.body) wp := ⟨hown, Bl.trans HNH.out.bel (Bl.of_fr ((Fr.refl _ _).grown (S := fun k => w1.heap.size ≤ k) hg (fun k hk => .inl (OwnB.ge HNH.out.own k hk))) (Nat.le_trans HNH.out.hb HNH.out.bel.size) (fun k hk => hk)), HNH.out.hb⟩; obtain ⟨Ap, kp, pp, rfl, hkp⟩ := H3.shape; have HKV2 := Lib.hid hkp; clear hkp hown hg hat rd18 H cc)
  clear HKV
  have HKV := HKV2
  have H := H3
  clear H3 HKV2 hlnb hlb HNH
  -- H's bytes are the body's; the flags' value is 4 (HF: fl c = it), the kind 0
  rw [HBB.out] at H HKV
  have HKL := HKV.out
  obtain ⟨bs, hbs⟩ : ∃ bs, bB c = bs := ⟨_, rfl⟩
  have HBS := Lib.hid hbs
  rw [hbs] at H HKL hlen
  have hkb : kp ≤ 10000000000 := by omega
  have hwk : IntKind.i64.wrap ((kp : Int) + 4) = (kp : Int) + 4 := IntWalk.i64_in _ (by omega)
  have HKB := Lib.hid HKL
  have hs0 := H.bel.size
  have B5 := Bl.trans B0 (Bl.low H.bel (Nat.le_of_lt hbw))
  by_cases hl : 65535 < bs.length + 4
  · have he := cE_long HKN.out HE.out (by rw [HBS.out]; exact hl)
    have HE2 := Lib.hid he
    have hl2 : decide ((65535 : Int) < (kp : Int) + 4) = true := decide_eq_true (by omega)
    clear he hl HKL hbs HKV hkb
    go_wp2
    go_ret2
    unfold PutC
    rw [cO_bad (by rw [HE2.out]; decide), HE2.out]
    exact ⟨B5, none, 0, rfl, OwnB.nil _ _ _⟩
  · have he := cE_ok HKN.out HE.out (by rw [HBS.out]; exact hl)
    have HE2 := Lib.hid he
    have hl2 : decide ((65535 : Int) < (kp : Int) + 4) = false := decide_eq_false (by omega)
    have hb4 : 0 ≤ (kp : Int) + 4 ∧ (kp : Int) + 4 < 4294967296 := by omega
    have ww := u64w hb4
    have hlb : bs.length + 4 ≤ 65535 := by omega
    clear he hl HKL hbs HKV hkb hlen
    -- flags 4, kind 0, the length (kp : Int) + 4, the world wp
    go_upto_region 75 with fail
    have own2 : OwnB (wp.alloc (.cells #[.int .u8 0, .int .u8 4] 5)) wp.heap.size 5 (.slice (some ⟨wp.heap.size, 0, none⟩) 2 2) [0, 4] := ⟨rfl, .inr ⟨wp.heap.size, 2, #[.int .u8 0, .int .u8 4], rfl, Nat.le_refl _, heap_alloc_new wp _, Nat.le_refl _, (by decide), rfl, rfl⟩⟩
    have hb2 : wp.heap.size ≤ (wp.alloc (.cells #[.int .u8 0, .int .u8 4] 5)).heap.size := by simp
    have H2 : NewP wp.heap.size (wp.alloc (.cells #[.int .u8 0, .int .u8 4] 5)) (.slice (some ⟨wp.heap.size, 0, none⟩) 2 2) [0, 4] (wp.alloc (.cells #[.int .u8 0, .int .u8 4] 5)) := ⟨own2, Below.refl _ _, hb2⟩
    have HB2 : Below wp.heap.size wp (wp.alloc (.cells #[.int .u8 0, .int .u8 4] 5)) := (Below.refl _ wp).alloc (Nat.le_refl _) _
    generalize wp.alloc (.cells #[.int .u8 0, .int .u8 4] 5) = wout at *
    clear own2 hb2
    go_wp2_with fail
    refine (rq_calls _ _ ((kp : Int) + 4) 2 _ H2.zero hb4.1 hb4.2 (by decide) (by simp)).mono ?_
    rintro e ws ⟨As, ks, ps, rfl, hks, HS⟩
    rw [txt_b16] at hks HS
    have H3 := H2.app HS
    have HKS := Lib.hid hks
    have HBWR := Lib.hid HB2
    have HB3 := Bl.trans HB2 H3.bel
    have o3 := OwnB.fr H.own (Bl.fr HB3) (fun k h1 h2 => by have := OwnB.lt H.own k h1; omega)
    obtain ⟨A6, c6, e6, -, -, -, rd⟩ := SlB.of_own o3
    injection e6 with e61 e62 e63
    subst e61; subst e63
    have hln : ([0, 4] ++ b16 ((kp : Int) + 4)).length + bs.length ≤ 140737488355328 := by simp [b16_len]; omega
    clear H2 HS HB2 HB3 hks e62 o3 hl2 ww hwk
    have HN3 := Lib.hid H3
    go_wp2_with (at_builtin; refine wpList_append_b _ rfl (.tmp 309) (.tmp 310) _ rfl wp.heap.size 5 ib Try.underlying29 hib hbz0 hbz1 hbz2 _ ([0, 4] ++ b16 ((kp : Int) + 4)) rfl H3.own _ _ _ _ _ bs rfl HKB.out rd hln (Nat.le_trans H3.hb H3.bel.size) ?_; intro v7 w7 hown hg hat; have o7 : OwnB w7 wp.heap.size 5 v7 ([0, 4] ++ b16 ((kp : Int) + 4) ++ bs) := hown; have HB7 := Lib.hid (Bl.trans HN3.out.bel (Bl.of_fr ((Fr.refl _ ws).grown (S := fun k => wp.heap.size ≤ k) hg (fun k hk => .inl (OwnB.ge HN3.out.own k hk))) (Nat.le_trans HN3.out.hb HN3.out.bel.size) (fun k hk => hk))); obtain ⟨A7, n7, c7, rfl, hn7⟩ : ∃ A n c, v7 = .slice A n c ∧ n = (([0, 4] : List Int) ++ b16 ((kp : Int) + 4) ++ bs).length := (by obtain ⟨A, c, e, -⟩ := OwnB.slice o7; exact ⟨A, _, c, e, rfl⟩); clear hn7; clear hown hg hat rd H3)
    have CPD := rpad_calls _ _ 4 w7 (OwnB.low o7 (Nat.zero_le _)) (by simp [b16_len]; omega) (by decide)
    have hl7 : (([0, 4] : List Int) ++ b16 ((kp : Int) + 4) ++ bs).length = 4 + bs.length := by simp [b16_len]; omega
    rw [hl7] at CPD
    refine CPD.mono ?_
    rintro e w8 ⟨A8, k8, c8, rfl, hk8, HP8⟩
    have HZ : [0, 4] ++ b16 ((kp : Int) + 4) ++ bs ++ List.replicate (padTo (4 + bs.length) 4) 0 = cB c := by
      unfold cB
      rw [HK.out, HF.out, HBS.out, show (((bs.length + 4 : Nat) : Int)) = (kp : Int) + 4 by have h9 := HKB.out; omega, show padTo (4 + bs.length) 4 = (4 - (bs.length + 4) % 4) % 4 by unfold padTo; rw [if_neg (by decide)]; show (4 - (4 + bs.length) % 4) % 4 = _; rw [Nat.add_comm]]
    rw [HZ] at HP8 hk8
    have N8 : NewP wp.heap.size wout (.slice A8 k8 c8) (cB c) w8 := NewP.app ⟨o7, HB7.out, HN3.out.hb⟩ HP8
    have BF2 : Below w.heap.size w w8 := Bl.trans B5 (Bl.low (Bl.trans HBWR.out N8.bel) B5.size)
    have HK8 := Lib.hid hk8
    clear HP8 hk8 HZ CPD o7
    go_wp2
    go_ret2
    unfold PutC
    rw [cO_ok HE2.out, HE2.out]
    have hk8' := HK8.out
    subst hk8'
    exact ⟨BF2, A8, c8, rfl, OwnB.low N8.own B5.size⟩
set_option maxHeartbeats 4000000 in
set_option maxRecDepth 100000 in
theorem rput_0_5 (lo hi : Nat) (cs : Array Value) (c : Ck) (w : World) (hC : CkV w lo hi cs c) (hhi : hi ≤ w.heap.size) (hBd : CkB c) (hL : CkL c) (hk : c.k = 0) (hb : ¬ c.body = []) (he : c.e = true) (hbb : c.b = false) (hl : c.l = true) :
    Calls Try.prog 14 #[.agg cs] w (PutC w c) := by
  have hsz := hC.size
  have hbw : w.heap.size < (w.alloc (.cells cs 31)).heap.size := by simp
  have B0 : Below w.heap.size w (w.alloc (.cells cs 31)) := (Below.refl _ w).alloc (Nat.le_refl _) _
  have bC := Blk.new w cs 31
  have hC1 := hC.fr (S := nothing) ((Fr.refl _ w).alloc (.cells cs 31)) (fun _ _ _ h => h)
  have c0 := hC.c0
  rw [hk] at c0
  have hlen := bB_len hL
  have HK := Lib.hid hk
  have HHI := Lib.hid hhi
  have kk : kn c.k = true := by rw [hk]; rfl
  have HKN := Lib.hid kk
  obtain ⟨ib, hib, hbz0, hbz1, hbz2⟩ := info_parts info_b
  have c1 := hC.c1
  have c2 := hC.c2
  have c3 := hC.c3
  rw [hbb] at c1
  rw [he] at c2
  rw [hl] at c3
  have HBBB := Lib.hid hbb
  have HE := Lib.hid (show bE c = 0 by simp [bE, HK.out, hb])
  have HF := Lib.hid (show fl c = 5 by simp [fl, HK.out, he, hbb, hl, bt])
  have hz : ((c.body.length : Int) == 0) = false := beq_eq_false_iff_ne.2 (fun h => hb (List.eq_nil_of_length_eq_zero (by omega)))
  obtain ⟨A18, p18, e18, h18⟩ := hC1.c18
  clear hk kk hhi hb he hbb hl h18
  have cc := (bC.cell 0).trans c0
  go_enter Try.func14, Try.ntmps14
  go_wp2_with fail
  refine (rknown_calls _ _ (by decide)).mono ?_
  rintro e wk ⟨rfl, hwk⟩
  rw [hwk]
  clear hwk cc
  generalize w.alloc (.cells cs 31) = w1 at *
  have H := NewP.nil w1.heap.size w1 (Nat.le_refl _)
  obtain ⟨kv, hkv⟩ : ∃ kv : Nat, kv = ([] : List Int).length := ⟨_, rfl⟩
  have HKV := Lib.hid hkv
  clear hkv
  have cc1 := (H.cell bC hbw (i := 1)).trans c1
  have cc2 := (H.cell bC hbw (i := 2)).trans c2
  have cc3 := (H.cell bC hbw (i := 3)).trans c3
  have cc18 := (H.cell bC hbw (i := 18)).trans e18
  go_upto_region 15 with fail
  clear cc1 cc2 cc3 cc18 hz
  have HBB := Lib.hid (show [] ++ b32 c.tsn ++ b16 c.st ++ b16 (c.mid % 65536) ++ b32 c.pp ++ c.body = bB c by simp [bB, HK.out])
  have cc := (H.cell bC hbw (i := 5)).trans hC.c5
  have ww := u64w hBd.tsn
  go_wp2_with fail
  -- c.tsn the number; 4 how many bytes; hBd.tsn its bounds; txt_b32: txt's name
  refine (rq_calls _ _ (c.tsn) 4 _ H.zero (hBd.tsn).1 (hBd.tsn).2 (by decide) (by simp [b16_len, b32_len]; try omega)).mono ?_
  rintro e wp ⟨Ap, kp, pp, rfl, hkp, HP⟩
  rw [txt_b32] at hkp HP
  have H' := H.app HP
  have HKV' := Lib.hid hkp
  clear H HKV HP hkp
  have H := H'
  have HKV := HKV'
  clear H' HKV'
  clear cc ww
  have cc := (H.cell bC hbw (i := 6)).trans hC.c6
  have ww := u64w (r16 hBd.st)
  go_wp2_with fail
  -- c.st the number; 2 how many bytes; (r16 hBd.st) its bounds; txt_b16: txt's name
  refine (rq_calls _ _ (c.st) 2 _ H.zero ((r16 hBd.st)).1 ((r16 hBd.st)).2 (by decide) (by simp [b16_len, b32_len]; try omega)).mono ?_
  rintro e wp ⟨Ap, kp, pp, rfl, hkp, HP⟩
  rw [txt_b16] at hkp HP
  have H' := H.app HP
  have HKV' := Lib.hid hkp
  clear H HKV HP hkp
  have H := H'
  have HKV := HKV'
  clear H' HKV'
  clear cc ww
  have hmm : 0 ≤ c.mid % 65536 ∧ c.mid % 65536 < 4294967296 := by omega
  have hm2 : c.mid.tmod 65536 = c.mid % 65536 := Int.tmod_eq_emod_of_nonneg hBd.mid.1
  have cc := (H.cell bC hbw (i := 7)).trans hC.c7
  have ww := u64w hmm
  go_wp2_with fail
  -- c.mid % 65536 the number; 2 how many bytes; hmm its bounds; txt_b16: txt's name
  refine (rq_calls _ _ (c.mid % 65536) 2 _ H.zero (hmm).1 (hmm).2 (by decide) (by simp [b16_len, b32_len]; try omega)).mono ?_
  rintro e wp ⟨Ap, kp, pp, rfl, hkp, HP⟩
  rw [txt_b16] at hkp HP
  have H' := H.app HP
  have HKV' := Lib.hid hkp
  clear H HKV HP hkp
  have H := H'
  have HKV := HKV'
  clear H' HKV'
  clear cc ww
  clear hm2 hmm
  have cc := (H.cell bC hbw (i := 8)).trans hC.c8
  have ww := u64w hBd.pp
  go_wp2_with fail
  -- c.pp the number; 4 how many bytes; hBd.pp its bounds; txt_b32: txt's name
  refine (rq_calls _ _ (c.pp) 4 _ H.zero (hBd.pp).1 (hBd.pp).2 (by decide) (by simp [b16_len, b32_len]; try omega)).mono ?_
  rintro e wp ⟨Ap, kp, pp, rfl, hkp, HP⟩
  rw [txt_b32] at hkp HP
  have H' := H.app HP
  have HKV' := Lib.hid hkp
  clear H HKV HP hkp
  have H := H'
  have HKV := HKV'
  clear H' HKV'
  clear cc ww
  -- the body behind the bytes [] ++ b32 c.tsn ++ b16 c.st ++ b16 (c.mid % 65536) ++ b32 c.pp
  have hCw := hC1.bl H.bel (Nat.le_trans HHI.out (Nat.le_of_lt hbw))
  obtain ⟨A18, p18, e18, h18⟩ := hCw.c18
  have cc := (H.cell bC hbw (i := 18)).trans e18
  obtain ⟨A18', c18', e18', -, -, -, rd18⟩ := h18
  injection e18' with e181 e182 e183
  subst e181; subst e183
  have hlb := hL.body
  have hlnb : ([] ++ b32 c.tsn ++ b16 c.st ++ b16 (c.mid % 65536) ++ b32 c.pp).length + c.body.length ≤ 140737488355328 := by simp [b16_len, b32_len]; omega
  have HNH := Lib.hid H
  clear hCw e182
  go_upto_region 72 with (at_builtin; refine wpList_append_b _ rfl (.tmp 291) (.tmp 293) _ rfl w1.heap.size 5 ib Try.underlying29 hib hbz0 hbz1 hbz2 _ ([] ++ b32 c.tsn ++ b16 c.st ++ b16 (c.mid % 65536) ++ b32 c.pp) rfl H.own _ _ _ _ _ c.body rfl rfl rd18 hlnb (Nat.le_trans H.hb H.bel.size) ?_; intro v3 wp hown hg hat; have H3 : NewP w1.heap.size w1 v3 ([] ++ b32 c.tsn ++ b16 c.st ++ b16 (c.mid % 65536) ++ b32 c.pp ++ c.body) wp := ⟨hown, Bl.trans HNH.out.bel (Bl.of_fr ((Fr.refl _ _).grown (S := fun k => w1.heap.size ≤ k) hg (fun k hk => .inl (OwnB.ge HNH.out.own k hk))) (Nat.le_trans HNH.out.hb HNH.out.bel.size) (fun k hk => hk)), HNH.out.hb⟩; obtain ⟨Ap, kp, pp, rfl, hkp⟩ := H3.shape; have HKV2 := Lib.hid hkp; clear hkp hown hg hat rd18 H cc)
  clear HKV
  have HKV := HKV2
  have H := H3
  clear H3 HKV2 hlnb hlb HNH
  -- H's bytes are the body's; the flags' value is 5 (HF: fl c = it), the kind 0
  rw [HBB.out] at H HKV
  have HKL := HKV.out
  obtain ⟨bs, hbs⟩ : ∃ bs, bB c = bs := ⟨_, rfl⟩
  have HBS := Lib.hid hbs
  rw [hbs] at H HKL hlen
  have hkb : kp ≤ 10000000000 := by omega
  have hwk : IntKind.i64.wrap ((kp : Int) + 4) = (kp : Int) + 4 := IntWalk.i64_in _ (by omega)
  have HKB := Lib.hid HKL
  have hs0 := H.bel.size
  have B5 := Bl.trans B0 (Bl.low H.bel (Nat.le_of_lt hbw))
  by_cases hl : 65535 < bs.length + 4
  · have he := cE_long HKN.out HE.out (by rw [HBS.out]; exact hl)
    have HE2 := Lib.hid he
    have hl2 : decide ((65535 : Int) < (kp : Int) + 4) = true := decide_eq_true (by omega)
    clear he hl HKL hbs HKV hkb
    go_wp2
    go_ret2
    unfold PutC
    rw [cO_bad (by rw [HE2.out]; decide), HE2.out]
    exact ⟨B5, none, 0, rfl, OwnB.nil _ _ _⟩
  · have he := cE_ok HKN.out HE.out (by rw [HBS.out]; exact hl)
    have HE2 := Lib.hid he
    have hl2 : decide ((65535 : Int) < (kp : Int) + 4) = false := decide_eq_false (by omega)
    have hb4 : 0 ≤ (kp : Int) + 4 ∧ (kp : Int) + 4 < 4294967296 := by omega
    have ww := u64w hb4
    have hlb : bs.length + 4 ≤ 65535 := by omega
    clear he hl HKL hbs HKV hkb hlen
    -- flags 5, kind 0, the length (kp : Int) + 4, the world wp
    go_upto_region 75 with fail
    have own2 : OwnB (wp.alloc (.cells #[.int .u8 0, .int .u8 5] 5)) wp.heap.size 5 (.slice (some ⟨wp.heap.size, 0, none⟩) 2 2) [0, 5] := ⟨rfl, .inr ⟨wp.heap.size, 2, #[.int .u8 0, .int .u8 5], rfl, Nat.le_refl _, heap_alloc_new wp _, Nat.le_refl _, (by decide), rfl, rfl⟩⟩
    have hb2 : wp.heap.size ≤ (wp.alloc (.cells #[.int .u8 0, .int .u8 5] 5)).heap.size := by simp
    have H2 : NewP wp.heap.size (wp.alloc (.cells #[.int .u8 0, .int .u8 5] 5)) (.slice (some ⟨wp.heap.size, 0, none⟩) 2 2) [0, 5] (wp.alloc (.cells #[.int .u8 0, .int .u8 5] 5)) := ⟨own2, Below.refl _ _, hb2⟩
    have HB2 : Below wp.heap.size wp (wp.alloc (.cells #[.int .u8 0, .int .u8 5] 5)) := (Below.refl _ wp).alloc (Nat.le_refl _) _
    generalize wp.alloc (.cells #[.int .u8 0, .int .u8 5] 5) = wout at *
    clear own2 hb2
    go_wp2_with fail
    refine (rq_calls _ _ ((kp : Int) + 4) 2 _ H2.zero hb4.1 hb4.2 (by decide) (by simp)).mono ?_
    rintro e ws ⟨As, ks, ps, rfl, hks, HS⟩
    rw [txt_b16] at hks HS
    have H3 := H2.app HS
    have HKS := Lib.hid hks
    have HBWR := Lib.hid HB2
    have HB3 := Bl.trans HB2 H3.bel
    have o3 := OwnB.fr H.own (Bl.fr HB3) (fun k h1 h2 => by have := OwnB.lt H.own k h1; omega)
    obtain ⟨A6, c6, e6, -, -, -, rd⟩ := SlB.of_own o3
    injection e6 with e61 e62 e63
    subst e61; subst e63
    have hln : ([0, 5] ++ b16 ((kp : Int) + 4)).length + bs.length ≤ 140737488355328 := by simp [b16_len]; omega
    clear H2 HS HB2 HB3 hks e62 o3 hl2 ww hwk
    have HN3 := Lib.hid H3
    go_wp2_with (at_builtin; refine wpList_append_b _ rfl (.tmp 309) (.tmp 310) _ rfl wp.heap.size 5 ib Try.underlying29 hib hbz0 hbz1 hbz2 _ ([0, 5] ++ b16 ((kp : Int) + 4)) rfl H3.own _ _ _ _ _ bs rfl HKB.out rd hln (Nat.le_trans H3.hb H3.bel.size) ?_; intro v7 w7 hown hg hat; have o7 : OwnB w7 wp.heap.size 5 v7 ([0, 5] ++ b16 ((kp : Int) + 4) ++ bs) := hown; have HB7 := Lib.hid (Bl.trans HN3.out.bel (Bl.of_fr ((Fr.refl _ ws).grown (S := fun k => wp.heap.size ≤ k) hg (fun k hk => .inl (OwnB.ge HN3.out.own k hk))) (Nat.le_trans HN3.out.hb HN3.out.bel.size) (fun k hk => hk))); obtain ⟨A7, n7, c7, rfl, hn7⟩ : ∃ A n c, v7 = .slice A n c ∧ n = (([0, 5] : List Int) ++ b16 ((kp : Int) + 4) ++ bs).length := (by obtain ⟨A, c, e, -⟩ := OwnB.slice o7; exact ⟨A, _, c, e, rfl⟩); clear hn7; clear hown hg hat rd H3)
    have CPD := rpad_calls _ _ 4 w7 (OwnB.low o7 (Nat.zero_le _)) (by simp [b16_len]; omega) (by decide)
    have hl7 : (([0, 5] : List Int) ++ b16 ((kp : Int) + 4) ++ bs).length = 4 + bs.length := by simp [b16_len]; omega
    rw [hl7] at CPD
    refine CPD.mono ?_
    rintro e w8 ⟨A8, k8, c8, rfl, hk8, HP8⟩
    have HZ : [0, 5] ++ b16 ((kp : Int) + 4) ++ bs ++ List.replicate (padTo (4 + bs.length) 4) 0 = cB c := by
      unfold cB
      rw [HK.out, HF.out, HBS.out, show (((bs.length + 4 : Nat) : Int)) = (kp : Int) + 4 by have h9 := HKB.out; omega, show padTo (4 + bs.length) 4 = (4 - (bs.length + 4) % 4) % 4 by unfold padTo; rw [if_neg (by decide)]; show (4 - (4 + bs.length) % 4) % 4 = _; rw [Nat.add_comm]]
    rw [HZ] at HP8 hk8
    have N8 : NewP wp.heap.size wout (.slice A8 k8 c8) (cB c) w8 := NewP.app ⟨o7, HB7.out, HN3.out.hb⟩ HP8
    have BF2 : Below w.heap.size w w8 := Bl.trans B5 (Bl.low (Bl.trans HBWR.out N8.bel) B5.size)
    have HK8 := Lib.hid hk8
    clear HP8 hk8 HZ CPD o7
    go_wp2
    go_ret2
    unfold PutC
    rw [cO_ok HE2.out, HE2.out]
    have hk8' := HK8.out
    subst hk8'
    exact ⟨BF2, A8, c8, rfl, OwnB.low N8.own B5.size⟩
set_option maxHeartbeats 4000000 in
set_option maxRecDepth 100000 in
theorem rput_0_6 (lo hi : Nat) (cs : Array Value) (c : Ck) (w : World) (hC : CkV w lo hi cs c) (hhi : hi ≤ w.heap.size) (hBd : CkB c) (hL : CkL c) (hk : c.k = 0) (hb : ¬ c.body = []) (he : c.e = false) (hbb : c.b = true) (hl : c.l = true) :
    Calls Try.prog 14 #[.agg cs] w (PutC w c) := by
  have hsz := hC.size
  have hbw : w.heap.size < (w.alloc (.cells cs 31)).heap.size := by simp
  have B0 : Below w.heap.size w (w.alloc (.cells cs 31)) := (Below.refl _ w).alloc (Nat.le_refl _) _
  have bC := Blk.new w cs 31
  have hC1 := hC.fr (S := nothing) ((Fr.refl _ w).alloc (.cells cs 31)) (fun _ _ _ h => h)
  have c0 := hC.c0
  rw [hk] at c0
  have hlen := bB_len hL
  have HK := Lib.hid hk
  have HHI := Lib.hid hhi
  have kk : kn c.k = true := by rw [hk]; rfl
  have HKN := Lib.hid kk
  obtain ⟨ib, hib, hbz0, hbz1, hbz2⟩ := info_parts info_b
  have c1 := hC.c1
  have c2 := hC.c2
  have c3 := hC.c3
  rw [hbb] at c1
  rw [he] at c2
  rw [hl] at c3
  have HBBB := Lib.hid hbb
  have HE := Lib.hid (show bE c = 0 by simp [bE, HK.out, hb])
  have HF := Lib.hid (show fl c = 6 by simp [fl, HK.out, he, hbb, hl, bt])
  have hz : ((c.body.length : Int) == 0) = false := beq_eq_false_iff_ne.2 (fun h => hb (List.eq_nil_of_length_eq_zero (by omega)))
  obtain ⟨A18, p18, e18, h18⟩ := hC1.c18
  clear hk kk hhi hb he hbb hl h18
  have cc := (bC.cell 0).trans c0
  go_enter Try.func14, Try.ntmps14
  go_wp2_with fail
  refine (rknown_calls _ _ (by decide)).mono ?_
  rintro e wk ⟨rfl, hwk⟩
  rw [hwk]
  clear hwk cc
  generalize w.alloc (.cells cs 31) = w1 at *
  have H := NewP.nil w1.heap.size w1 (Nat.le_refl _)
  obtain ⟨kv, hkv⟩ : ∃ kv : Nat, kv = ([] : List Int).length := ⟨_, rfl⟩
  have HKV := Lib.hid hkv
  clear hkv
  have cc1 := (H.cell bC hbw (i := 1)).trans c1
  have cc2 := (H.cell bC hbw (i := 2)).trans c2
  have cc3 := (H.cell bC hbw (i := 3)).trans c3
  have cc18 := (H.cell bC hbw (i := 18)).trans e18
  go_upto_region 15 with fail
  clear cc1 cc2 cc3 cc18 hz
  have HBB := Lib.hid (show [] ++ b32 c.tsn ++ b16 c.st ++ b16 (c.mid % 65536) ++ b32 c.pp ++ c.body = bB c by simp [bB, HK.out])
  have cc := (H.cell bC hbw (i := 5)).trans hC.c5
  have ww := u64w hBd.tsn
  go_wp2_with fail
  -- c.tsn the number; 4 how many bytes; hBd.tsn its bounds; txt_b32: txt's name
  refine (rq_calls _ _ (c.tsn) 4 _ H.zero (hBd.tsn).1 (hBd.tsn).2 (by decide) (by simp [b16_len, b32_len]; try omega)).mono ?_
  rintro e wp ⟨Ap, kp, pp, rfl, hkp, HP⟩
  rw [txt_b32] at hkp HP
  have H' := H.app HP
  have HKV' := Lib.hid hkp
  clear H HKV HP hkp
  have H := H'
  have HKV := HKV'
  clear H' HKV'
  clear cc ww
  have cc := (H.cell bC hbw (i := 6)).trans hC.c6
  have ww := u64w (r16 hBd.st)
  go_wp2_with fail
  -- c.st the number; 2 how many bytes; (r16 hBd.st) its bounds; txt_b16: txt's name
  refine (rq_calls _ _ (c.st) 2 _ H.zero ((r16 hBd.st)).1 ((r16 hBd.st)).2 (by decide) (by simp [b16_len, b32_len]; try omega)).mono ?_
  rintro e wp ⟨Ap, kp, pp, rfl, hkp, HP⟩
  rw [txt_b16] at hkp HP
  have H' := H.app HP
  have HKV' := Lib.hid hkp
  clear H HKV HP hkp
  have H := H'
  have HKV := HKV'
  clear H' HKV'
  clear cc ww
  have hmm : 0 ≤ c.mid % 65536 ∧ c.mid % 65536 < 4294967296 := by omega
  have hm2 : c.mid.tmod 65536 = c.mid % 65536 := Int.tmod_eq_emod_of_nonneg hBd.mid.1
  have cc := (H.cell bC hbw (i := 7)).trans hC.c7
  have ww := u64w hmm
  go_wp2_with fail
  -- c.mid % 65536 the number; 2 how many bytes; hmm its bounds; txt_b16: txt's name
  refine (rq_calls _ _ (c.mid % 65536) 2 _ H.zero (hmm).1 (hmm).2 (by decide) (by simp [b16_len, b32_len]; try omega)).mono ?_
  rintro e wp ⟨Ap, kp, pp, rfl, hkp, HP⟩
  rw [txt_b16] at hkp HP
  have H' := H.app HP
  have HKV' := Lib.hid hkp
  clear H HKV HP hkp
  have H := H'
  have HKV := HKV'
  clear H' HKV'
  clear cc ww
  clear hm2 hmm
  have cc := (H.cell bC hbw (i := 8)).trans hC.c8
  have ww := u64w hBd.pp
  go_wp2_with fail
  -- c.pp the number; 4 how many bytes; hBd.pp its bounds; txt_b32: txt's name
  refine (rq_calls _ _ (c.pp) 4 _ H.zero (hBd.pp).1 (hBd.pp).2 (by decide) (by simp [b16_len, b32_len]; try omega)).mono ?_
  rintro e wp ⟨Ap, kp, pp, rfl, hkp, HP⟩
  rw [txt_b32] at hkp HP
  have H' := H.app HP
  have HKV' := Lib.hid hkp
  clear H HKV HP hkp
  have H := H'
  have HKV := HKV'
  clear H' HKV'
  clear cc ww
  -- the body behind the bytes [] ++ b32 c.tsn ++ b16 c.st ++ b16 (c.mid % 65536) ++ b32 c.pp
  have hCw := hC1.bl H.bel (Nat.le_trans HHI.out (Nat.le_of_lt hbw))
  obtain ⟨A18, p18, e18, h18⟩ := hCw.c18
  have cc := (H.cell bC hbw (i := 18)).trans e18
  obtain ⟨A18', c18', e18', -, -, -, rd18⟩ := h18
  injection e18' with e181 e182 e183
  subst e181; subst e183
  have hlb := hL.body
  have hlnb : ([] ++ b32 c.tsn ++ b16 c.st ++ b16 (c.mid % 65536) ++ b32 c.pp).length + c.body.length ≤ 140737488355328 := by simp [b16_len, b32_len]; omega
  have HNH := Lib.hid H
  clear hCw e182
  go_upto_region 72 with (at_builtin; refine wpList_append_b _ rfl (.tmp 291) (.tmp 293) _ rfl w1.heap.size 5 ib Try.underlying29 hib hbz0 hbz1 hbz2 _ ([] ++ b32 c.tsn ++ b16 c.st ++ b16 (c.mid % 65536) ++ b32 c.pp) rfl H.own _ _ _ _ _ c.body rfl rfl rd18 hlnb (Nat.le_trans H.hb H.bel.size) ?_; intro v3 wp hown hg hat; have H3 : NewP w1.heap.size w1 v3 ([] ++ b32 c.tsn ++ b16 c.st ++ b16 (c.mid % 65536) ++ b32 c.pp ++ c.body) wp := ⟨hown, Bl.trans HNH.out.bel (Bl.of_fr ((Fr.refl _ _).grown (S := fun k => w1.heap.size ≤ k) hg (fun k hk => .inl (OwnB.ge HNH.out.own k hk))) (Nat.le_trans HNH.out.hb HNH.out.bel.size) (fun k hk => hk)), HNH.out.hb⟩; obtain ⟨Ap, kp, pp, rfl, hkp⟩ := H3.shape; have HKV2 := Lib.hid hkp; clear hkp hown hg hat rd18 H cc)
  clear HKV
  have HKV := HKV2
  have H := H3
  clear H3 HKV2 hlnb hlb HNH
  -- H's bytes are the body's; the flags' value is 6 (HF: fl c = it), the kind 0
  rw [HBB.out] at H HKV
  have HKL := HKV.out
  obtain ⟨bs, hbs⟩ : ∃ bs, bB c = bs := ⟨_, rfl⟩
  have HBS := Lib.hid hbs
  rw [hbs] at H HKL hlen
  have hkb : kp ≤ 10000000000 := by omega
  have hwk : IntKind.i64.wrap ((kp : Int) + 4) = (kp : Int) + 4 := IntWalk.i64_in _ (by omega)
  have HKB := Lib.hid HKL
  have hs0 := H.bel.size
  have B5 := Bl.trans B0 (Bl.low H.bel (Nat.le_of_lt hbw))
  by_cases hl : 65535 < bs.length + 4
  · have he := cE_long HKN.out HE.out (by rw [HBS.out]; exact hl)
    have HE2 := Lib.hid he
    have hl2 : decide ((65535 : Int) < (kp : Int) + 4) = true := decide_eq_true (by omega)
    clear he hl HKL hbs HKV hkb
    go_wp2
    go_ret2
    unfold PutC
    rw [cO_bad (by rw [HE2.out]; decide), HE2.out]
    exact ⟨B5, none, 0, rfl, OwnB.nil _ _ _⟩
  · have he := cE_ok HKN.out HE.out (by rw [HBS.out]; exact hl)
    have HE2 := Lib.hid he
    have hl2 : decide ((65535 : Int) < (kp : Int) + 4) = false := decide_eq_false (by omega)
    have hb4 : 0 ≤ (kp : Int) + 4 ∧ (kp : Int) + 4 < 4294967296 := by omega
    have ww := u64w hb4
    have hlb : bs.length + 4 ≤ 65535 := by omega
    clear he hl HKL hbs HKV hkb hlen
    -- flags 6, kind 0, the length (kp : Int) + 4, the world wp
    go_upto_region 75 with fail
    have own2 : OwnB (wp.alloc (.cells #[.int .u8 0, .int .u8 6] 5)) wp.heap.size 5 (.slice (some ⟨wp.heap.size, 0, none⟩) 2 2) [0, 6] := ⟨rfl, .inr ⟨wp.heap.size, 2, #[.int .u8 0, .int .u8 6], rfl, Nat.le_refl _, heap_alloc_new wp _, Nat.le_refl _, (by decide), rfl, rfl⟩⟩
    have hb2 : wp.heap.size ≤ (wp.alloc (.cells #[.int .u8 0, .int .u8 6] 5)).heap.size := by simp
    have H2 : NewP wp.heap.size (wp.alloc (.cells #[.int .u8 0, .int .u8 6] 5)) (.slice (some ⟨wp.heap.size, 0, none⟩) 2 2) [0, 6] (wp.alloc (.cells #[.int .u8 0, .int .u8 6] 5)) := ⟨own2, Below.refl _ _, hb2⟩
    have HB2 : Below wp.heap.size wp (wp.alloc (.cells #[.int .u8 0, .int .u8 6] 5)) := (Below.refl _ wp).alloc (Nat.le_refl _) _
    generalize wp.alloc (.cells #[.int .u8 0, .int .u8 6] 5) = wout at *
    clear own2 hb2
    go_wp2_with fail
    refine (rq_calls _ _ ((kp : Int) + 4) 2 _ H2.zero hb4.1 hb4.2 (by decide) (by simp)).mono ?_
    rintro e ws ⟨As, ks, ps, rfl, hks, HS⟩
    rw [txt_b16] at hks HS
    have H3 := H2.app HS
    have HKS := Lib.hid hks
    have HBWR := Lib.hid HB2
    have HB3 := Bl.trans HB2 H3.bel
    have o3 := OwnB.fr H.own (Bl.fr HB3) (fun k h1 h2 => by have := OwnB.lt H.own k h1; omega)
    obtain ⟨A6, c6, e6, -, -, -, rd⟩ := SlB.of_own o3
    injection e6 with e61 e62 e63
    subst e61; subst e63
    have hln : ([0, 6] ++ b16 ((kp : Int) + 4)).length + bs.length ≤ 140737488355328 := by simp [b16_len]; omega
    clear H2 HS HB2 HB3 hks e62 o3 hl2 ww hwk
    have HN3 := Lib.hid H3
    go_wp2_with (at_builtin; refine wpList_append_b _ rfl (.tmp 309) (.tmp 310) _ rfl wp.heap.size 5 ib Try.underlying29 hib hbz0 hbz1 hbz2 _ ([0, 6] ++ b16 ((kp : Int) + 4)) rfl H3.own _ _ _ _ _ bs rfl HKB.out rd hln (Nat.le_trans H3.hb H3.bel.size) ?_; intro v7 w7 hown hg hat; have o7 : OwnB w7 wp.heap.size 5 v7 ([0, 6] ++ b16 ((kp : Int) + 4) ++ bs) := hown; have HB7 := Lib.hid (Bl.trans HN3.out.bel (Bl.of_fr ((Fr.refl _ ws).grown (S := fun k => wp.heap.size ≤ k) hg (fun k hk => .inl (OwnB.ge HN3.out.own k hk))) (Nat.le_trans HN3.out.hb HN3.out.bel.size) (fun k hk => hk))); obtain ⟨A7, n7, c7, rfl, hn7⟩ : ∃ A n c, v7 = .slice A n c ∧ n = (([0, 6] : List Int) ++ b16 ((kp : Int) + 4) ++ bs).length := (by obtain ⟨A, c, e, -⟩ := OwnB.slice o7; exact ⟨A, _, c, e, rfl⟩); clear hn7; clear hown hg hat rd H3)
    have CPD := rpad_calls _ _ 4 w7 (OwnB.low o7 (Nat.zero_le _)) (by simp [b16_len]; omega) (by decide)
    have hl7 : (([0, 6] : List Int) ++ b16 ((kp : Int) + 4) ++ bs).length = 4 + bs.length := by simp [b16_len]; omega
    rw [hl7] at CPD
    refine CPD.mono ?_
    rintro e w8 ⟨A8, k8, c8, rfl, hk8, HP8⟩
    have HZ : [0, 6] ++ b16 ((kp : Int) + 4) ++ bs ++ List.replicate (padTo (4 + bs.length) 4) 0 = cB c := by
      unfold cB
      rw [HK.out, HF.out, HBS.out, show (((bs.length + 4 : Nat) : Int)) = (kp : Int) + 4 by have h9 := HKB.out; omega, show padTo (4 + bs.length) 4 = (4 - (bs.length + 4) % 4) % 4 by unfold padTo; rw [if_neg (by decide)]; show (4 - (4 + bs.length) % 4) % 4 = _; rw [Nat.add_comm]]
    rw [HZ] at HP8 hk8
    have N8 : NewP wp.heap.size wout (.slice A8 k8 c8) (cB c) w8 := NewP.app ⟨o7, HB7.out, HN3.out.hb⟩ HP8
    have BF2 : Below w.heap.size w w8 := Bl.trans B5 (Bl.low (Bl.trans HBWR.out N8.bel) B5.size)
    have HK8 := Lib.hid hk8
    clear HP8 hk8 HZ CPD o7
    go_wp2
    go_ret2
    unfold PutC
    rw [cO_ok HE2.out, HE2.out]
    have hk8' := HK8.out
    subst hk8'
    exact ⟨BF2, A8, c8, rfl, OwnB.low N8.own B5.size⟩
set_option maxHeartbeats 4000000 in
set_option maxRecDepth 100000 in
theorem rput_0_7 (lo hi : Nat) (cs : Array Value) (c : Ck) (w : World) (hC : CkV w lo hi cs c) (hhi : hi ≤ w.heap.size) (hBd : CkB c) (hL : CkL c) (hk : c.k = 0) (hb : ¬ c.body = []) (he : c.e = true) (hbb : c.b = true) (hl : c.l = true) :
    Calls Try.prog 14 #[.agg cs] w (PutC w c) := by
  have hsz := hC.size
  have hbw : w.heap.size < (w.alloc (.cells cs 31)).heap.size := by simp
  have B0 : Below w.heap.size w (w.alloc (.cells cs 31)) := (Below.refl _ w).alloc (Nat.le_refl _) _
  have bC := Blk.new w cs 31
  have hC1 := hC.fr (S := nothing) ((Fr.refl _ w).alloc (.cells cs 31)) (fun _ _ _ h => h)
  have c0 := hC.c0
  rw [hk] at c0
  have hlen := bB_len hL
  have HK := Lib.hid hk
  have HHI := Lib.hid hhi
  have kk : kn c.k = true := by rw [hk]; rfl
  have HKN := Lib.hid kk
  obtain ⟨ib, hib, hbz0, hbz1, hbz2⟩ := info_parts info_b
  have c1 := hC.c1
  have c2 := hC.c2
  have c3 := hC.c3
  rw [hbb] at c1
  rw [he] at c2
  rw [hl] at c3
  have HBBB := Lib.hid hbb
  have HE := Lib.hid (show bE c = 0 by simp [bE, HK.out, hb])
  have HF := Lib.hid (show fl c = 7 by simp [fl, HK.out, he, hbb, hl, bt])
  have hz : ((c.body.length : Int) == 0) = false := beq_eq_false_iff_ne.2 (fun h => hb (List.eq_nil_of_length_eq_zero (by omega)))
  obtain ⟨A18, p18, e18, h18⟩ := hC1.c18
  clear hk kk hhi hb he hbb hl h18
  have cc := (bC.cell 0).trans c0
  go_enter Try.func14, Try.ntmps14
  go_wp2_with fail
  refine (rknown_calls _ _ (by decide)).mono ?_
  rintro e wk ⟨rfl, hwk⟩
  rw [hwk]
  clear hwk cc
  generalize w.alloc (.cells cs 31) = w1 at *
  have H := NewP.nil w1.heap.size w1 (Nat.le_refl _)
  obtain ⟨kv, hkv⟩ : ∃ kv : Nat, kv = ([] : List Int).length := ⟨_, rfl⟩
  have HKV := Lib.hid hkv
  clear hkv
  have cc1 := (H.cell bC hbw (i := 1)).trans c1
  have cc2 := (H.cell bC hbw (i := 2)).trans c2
  have cc3 := (H.cell bC hbw (i := 3)).trans c3
  have cc18 := (H.cell bC hbw (i := 18)).trans e18
  go_upto_region 15 with fail
  clear cc1 cc2 cc3 cc18 hz
  have HBB := Lib.hid (show [] ++ b32 c.tsn ++ b16 c.st ++ b16 (c.mid % 65536) ++ b32 c.pp ++ c.body = bB c by simp [bB, HK.out])
  have cc := (H.cell bC hbw (i := 5)).trans hC.c5
  have ww := u64w hBd.tsn
  go_wp2_with fail
  -- c.tsn the number; 4 how many bytes; hBd.tsn its bounds; txt_b32: txt's name
  refine (rq_calls _ _ (c.tsn) 4 _ H.zero (hBd.tsn).1 (hBd.tsn).2 (by decide) (by simp [b16_len, b32_len]; try omega)).mono ?_
  rintro e wp ⟨Ap, kp, pp, rfl, hkp, HP⟩
  rw [txt_b32] at hkp HP
  have H' := H.app HP
  have HKV' := Lib.hid hkp
  clear H HKV HP hkp
  have H := H'
  have HKV := HKV'
  clear H' HKV'
  clear cc ww
  have cc := (H.cell bC hbw (i := 6)).trans hC.c6
  have ww := u64w (r16 hBd.st)
  go_wp2_with fail
  -- c.st the number; 2 how many bytes; (r16 hBd.st) its bounds; txt_b16: txt's name
  refine (rq_calls _ _ (c.st) 2 _ H.zero ((r16 hBd.st)).1 ((r16 hBd.st)).2 (by decide) (by simp [b16_len, b32_len]; try omega)).mono ?_
  rintro e wp ⟨Ap, kp, pp, rfl, hkp, HP⟩
  rw [txt_b16] at hkp HP
  have H' := H.app HP
  have HKV' := Lib.hid hkp
  clear H HKV HP hkp
  have H := H'
  have HKV := HKV'
  clear H' HKV'
  clear cc ww
  have hmm : 0 ≤ c.mid % 65536 ∧ c.mid % 65536 < 4294967296 := by omega
  have hm2 : c.mid.tmod 65536 = c.mid % 65536 := Int.tmod_eq_emod_of_nonneg hBd.mid.1
  have cc := (H.cell bC hbw (i := 7)).trans hC.c7
  have ww := u64w hmm
  go_wp2_with fail
  -- c.mid % 65536 the number; 2 how many bytes; hmm its bounds; txt_b16: txt's name
  refine (rq_calls _ _ (c.mid % 65536) 2 _ H.zero (hmm).1 (hmm).2 (by decide) (by simp [b16_len, b32_len]; try omega)).mono ?_
  rintro e wp ⟨Ap, kp, pp, rfl, hkp, HP⟩
  rw [txt_b16] at hkp HP
  have H' := H.app HP
  have HKV' := Lib.hid hkp
  clear H HKV HP hkp
  have H := H'
  have HKV := HKV'
  clear H' HKV'
  clear cc ww
  clear hm2 hmm
  have cc := (H.cell bC hbw (i := 8)).trans hC.c8
  have ww := u64w hBd.pp
  go_wp2_with fail
  -- c.pp the number; 4 how many bytes; hBd.pp its bounds; txt_b32: txt's name
  refine (rq_calls _ _ (c.pp) 4 _ H.zero (hBd.pp).1 (hBd.pp).2 (by decide) (by simp [b16_len, b32_len]; try omega)).mono ?_
  rintro e wp ⟨Ap, kp, pp, rfl, hkp, HP⟩
  rw [txt_b32] at hkp HP
  have H' := H.app HP
  have HKV' := Lib.hid hkp
  clear H HKV HP hkp
  have H := H'
  have HKV := HKV'
  clear H' HKV'
  clear cc ww
  -- the body behind the bytes [] ++ b32 c.tsn ++ b16 c.st ++ b16 (c.mid % 65536) ++ b32 c.pp
  have hCw := hC1.bl H.bel (Nat.le_trans HHI.out (Nat.le_of_lt hbw))
  obtain ⟨A18, p18, e18, h18⟩ := hCw.c18
  have cc := (H.cell bC hbw (i := 18)).trans e18
  obtain ⟨A18', c18', e18', -, -, -, rd18⟩ := h18
  injection e18' with e181 e182 e183
  subst e181; subst e183
  have hlb := hL.body
  have hlnb : ([] ++ b32 c.tsn ++ b16 c.st ++ b16 (c.mid % 65536) ++ b32 c.pp).length + c.body.length ≤ 140737488355328 := by simp [b16_len, b32_len]; omega
  have HNH := Lib.hid H
  clear hCw e182
  go_upto_region 72 with (at_builtin; refine wpList_append_b _ rfl (.tmp 291) (.tmp 293) _ rfl w1.heap.size 5 ib Try.underlying29 hib hbz0 hbz1 hbz2 _ ([] ++ b32 c.tsn ++ b16 c.st ++ b16 (c.mid % 65536) ++ b32 c.pp) rfl H.own _ _ _ _ _ c.body rfl rfl rd18 hlnb (Nat.le_trans H.hb H.bel.size) ?_; intro v3 wp hown hg hat; have H3 : NewP w1.heap.size w1 v3 ([] ++ b32 c.tsn ++ b16 c.st ++ b16 (c.mid % 65536) ++ b32 c.pp ++ c.body) wp := ⟨hown, Bl.trans HNH.out.bel (Bl.of_fr ((Fr.refl _ _).grown (S := fun k => w1.heap.size ≤ k) hg (fun k hk => .inl (OwnB.ge HNH.out.own k hk))) (Nat.le_trans HNH.out.hb HNH.out.bel.size) (fun k hk => hk)), HNH.out.hb⟩; obtain ⟨Ap, kp, pp, rfl, hkp⟩ := H3.shape; have HKV2 := Lib.hid hkp; clear hkp hown hg hat rd18 H cc)
  clear HKV
  have HKV := HKV2
  have H := H3
  clear H3 HKV2 hlnb hlb HNH
  -- H's bytes are the body's; the flags' value is 7 (HF: fl c = it), the kind 0
  rw [HBB.out] at H HKV
  have HKL := HKV.out
  obtain ⟨bs, hbs⟩ : ∃ bs, bB c = bs := ⟨_, rfl⟩
  have HBS := Lib.hid hbs
  rw [hbs] at H HKL hlen
  have hkb : kp ≤ 10000000000 := by omega
  have hwk : IntKind.i64.wrap ((kp : Int) + 4) = (kp : Int) + 4 := IntWalk.i64_in _ (by omega)
  have HKB := Lib.hid HKL
  have hs0 := H.bel.size
  have B5 := Bl.trans B0 (Bl.low H.bel (Nat.le_of_lt hbw))
  by_cases hl : 65535 < bs.length + 4
  · have he := cE_long HKN.out HE.out (by rw [HBS.out]; exact hl)
    have HE2 := Lib.hid he
    have hl2 : decide ((65535 : Int) < (kp : Int) + 4) = true := decide_eq_true (by omega)
    clear he hl HKL hbs HKV hkb
    go_wp2
    go_ret2
    unfold PutC
    rw [cO_bad (by rw [HE2.out]; decide), HE2.out]
    exact ⟨B5, none, 0, rfl, OwnB.nil _ _ _⟩
  · have he := cE_ok HKN.out HE.out (by rw [HBS.out]; exact hl)
    have HE2 := Lib.hid he
    have hl2 : decide ((65535 : Int) < (kp : Int) + 4) = false := decide_eq_false (by omega)
    have hb4 : 0 ≤ (kp : Int) + 4 ∧ (kp : Int) + 4 < 4294967296 := by omega
    have ww := u64w hb4
    have hlb : bs.length + 4 ≤ 65535 := by omega
    clear he hl HKL hbs HKV hkb hlen
    -- flags 7, kind 0, the length (kp : Int) + 4, the world wp
    go_upto_region 75 with fail
    have own2 : OwnB (wp.alloc (.cells #[.int .u8 0, .int .u8 7] 5)) wp.heap.size 5 (.slice (some ⟨wp.heap.size, 0, none⟩) 2 2) [0, 7] := ⟨rfl, .inr ⟨wp.heap.size, 2, #[.int .u8 0, .int .u8 7], rfl, Nat.le_refl _, heap_alloc_new wp _, Nat.le_refl _, (by decide), rfl, rfl⟩⟩
    have hb2 : wp.heap.size ≤ (wp.alloc (.cells #[.int .u8 0, .int .u8 7] 5)).heap.size := by simp
    have H2 : NewP wp.heap.size (wp.alloc (.cells #[.int .u8 0, .int .u8 7] 5)) (.slice (some ⟨wp.heap.size, 0, none⟩) 2 2) [0, 7] (wp.alloc (.cells #[.int .u8 0, .int .u8 7] 5)) := ⟨own2, Below.refl _ _, hb2⟩
    have HB2 : Below wp.heap.size wp (wp.alloc (.cells #[.int .u8 0, .int .u8 7] 5)) := (Below.refl _ wp).alloc (Nat.le_refl _) _
    generalize wp.alloc (.cells #[.int .u8 0, .int .u8 7] 5) = wout at *
    clear own2 hb2
    go_wp2_with fail
    refine (rq_calls _ _ ((kp : Int) + 4) 2 _ H2.zero hb4.1 hb4.2 (by decide) (by simp)).mono ?_
    rintro e ws ⟨As, ks, ps, rfl, hks, HS⟩
    rw [txt_b16] at hks HS
    have H3 := H2.app HS
    have HKS := Lib.hid hks
    have HBWR := Lib.hid HB2
    have HB3 := Bl.trans HB2 H3.bel
    have o3 := OwnB.fr H.own (Bl.fr HB3) (fun k h1 h2 => by have := OwnB.lt H.own k h1; omega)
    obtain ⟨A6, c6, e6, -, -, -, rd⟩ := SlB.of_own o3
    injection e6 with e61 e62 e63
    subst e61; subst e63
    have hln : ([0, 7] ++ b16 ((kp : Int) + 4)).length + bs.length ≤ 140737488355328 := by simp [b16_len]; omega
    clear H2 HS HB2 HB3 hks e62 o3 hl2 ww hwk
    have HN3 := Lib.hid H3
    go_wp2_with (at_builtin; refine wpList_append_b _ rfl (.tmp 309) (.tmp 310) _ rfl wp.heap.size 5 ib Try.underlying29 hib hbz0 hbz1 hbz2 _ ([0, 7] ++ b16 ((kp : Int) + 4)) rfl H3.own _ _ _ _ _ bs rfl HKB.out rd hln (Nat.le_trans H3.hb H3.bel.size) ?_; intro v7 w7 hown hg hat; have o7 : OwnB w7 wp.heap.size 5 v7 ([0, 7] ++ b16 ((kp : Int) + 4) ++ bs) := hown; have HB7 := Lib.hid (Bl.trans HN3.out.bel (Bl.of_fr ((Fr.refl _ ws).grown (S := fun k => wp.heap.size ≤ k) hg (fun k hk => .inl (OwnB.ge HN3.out.own k hk))) (Nat.le_trans HN3.out.hb HN3.out.bel.size) (fun k hk => hk))); obtain ⟨A7, n7, c7, rfl, hn7⟩ : ∃ A n c, v7 = .slice A n c ∧ n = (([0, 7] : List Int) ++ b16 ((kp : Int) + 4) ++ bs).length := (by obtain ⟨A, c, e, -⟩ := OwnB.slice o7; exact ⟨A, _, c, e, rfl⟩); clear hn7; clear hown hg hat rd H3)
    have CPD := rpad_calls _ _ 4 w7 (OwnB.low o7 (Nat.zero_le _)) (by simp [b16_len]; omega) (by decide)
    have hl7 : (([0, 7] : List Int) ++ b16 ((kp : Int) + 4) ++ bs).length = 4 + bs.length := by simp [b16_len]; omega
    rw [hl7] at CPD
    refine CPD.mono ?_
    rintro e w8 ⟨A8, k8, c8, rfl, hk8, HP8⟩
    have HZ : [0, 7] ++ b16 ((kp : Int) + 4) ++ bs ++ List.replicate (padTo (4 + bs.length) 4) 0 = cB c := by
      unfold cB
      rw [HK.out, HF.out, HBS.out, show (((bs.length + 4 : Nat) : Int)) = (kp : Int) + 4 by have h9 := HKB.out; omega, show padTo (4 + bs.length) 4 = (4 - (bs.length + 4) % 4) % 4 by unfold padTo; rw [if_neg (by decide)]; show (4 - (4 + bs.length) % 4) % 4 = _; rw [Nat.add_comm]]
    rw [HZ] at HP8 hk8
    have N8 : NewP wp.heap.size wout (.slice A8 k8 c8) (cB c) w8 := NewP.app ⟨o7, HB7.out, HN3.out.hb⟩ HP8
    have BF2 : Below w.heap.size w w8 := Bl.trans B5 (Bl.low (Bl.trans HBWR.out N8.bel) B5.size)
    have HK8 := Lib.hid hk8
    clear HP8 hk8 HZ CPD o7
    go_wp2
    go_ret2
    unfold PutC
    rw [cO_ok HE2.out, HE2.out]
    have hk8' := HK8.out
    subst hk8'
    exact ⟨BF2, A8, c8, rfl, OwnB.low N8.own B5.size⟩
set_option maxHeartbeats 4000000 in
set_option maxRecDepth 100000 in
theorem rput_0 (lo hi : Nat) (cs : Array Value) (c : Ck) (w : World) (hC : CkV w lo hi cs c) (hhi : hi ≤ w.heap.size) (hBd : CkB c) (hL : CkL c) (hk : c.k = 0) :
    Calls Try.prog 14 #[.agg cs] w (PutC w c) := by
  have hsz := hC.size
  have hbw : w.heap.size < (w.alloc (.cells cs 31)).heap.size := by simp
  have B0 : Below w.heap.size w (w.alloc (.cells cs 31)) := (Below.refl _ w).alloc (Nat.le_refl _) _
  have bC := Blk.new w cs 31
  have hC1 := hC.fr (S := nothing) ((Fr.refl _ w).alloc (.cells cs 31)) (fun _ _ _ h => h)
  have c0 := hC.c0
  rw [hk] at c0
  have hlen := bB_len hL
  have HK := Lib.hid hk
  have HHI := Lib.hid hhi
  have kk : kn c.k = true := by rw [hk]; rfl
  have HKN := Lib.hid kk
  obtain ⟨ib, hib, hbz0, hbz1, hbz2⟩ := info_parts info_b
  clear hk kk hhi
  obtain ⟨A18, p18, e18, h18⟩ := hC1.c18
  by_cases hb : c.body = []
  · skip
    have hz : ((c.body.length : Int) == 0) = true := by rw [hb]; rfl
    have HE2 := Lib.hid (show cE c = 42 by unfold cE; rw [if_neg (by rw [HKN.out]; decide), show bE c = 42 by simp [bE, HK.out, hb]]; rfl)
    clear hb
    have cc := (bC.cell 0).trans c0
    go_enter Try.func14, Try.ntmps14
    go_wp2_with fail
    refine (rknown_calls _ _ (by decide)).mono ?_
    rintro e wk ⟨rfl, hwk⟩
    rw [hwk]
    clear hwk cc
    generalize w.alloc (.cells cs 31) = w1 at *
    have H := NewP.nil w1.heap.size w1 (Nat.le_refl _)
    obtain ⟨kv, hkv⟩ : ∃ kv : Nat, kv = ([] : List Int).length := ⟨_, rfl⟩
    have HKV := Lib.hid hkv
    clear hkv
    have cc := (H.cell bC hbw (i := 18)).trans e18
    go_wp2
    go_ret2
    unfold PutC
    rw [cO_bad (by rw [HE2.out]; decide), HE2.out]
    exact ⟨B0, none, 0, rfl, OwnB.nil _ _ _⟩
  · have hhi := HHI.out
    have hk := HK.out
    clear hC1 bC B0 hbw h18 e18 hib
    cases hl : c.l <;> cases hbb : c.b <;> cases he : c.e
    · exact rput_0_0 lo hi cs c w hC hhi hBd hL hk hb he hbb hl
    · exact rput_0_1 lo hi cs c w hC hhi hBd hL hk hb he hbb hl
    · exact rput_0_2 lo hi cs c w hC hhi hBd hL hk hb he hbb hl
    · exact rput_0_3 lo hi cs c w hC hhi hBd hL hk hb he hbb hl
    · exact rput_0_4 lo hi cs c w hC hhi hBd hL hk hb he hbb hl
    · exact rput_0_5 lo hi cs c w hC hhi hBd hL hk hb he hbb hl
    · exact rput_0_6 lo hi cs c w hC hhi hBd hL hk hb he hbb hl
    · exact rput_0_7 lo hi cs c w hC hhi hBd hL hk hb he hbb hl
end Go.Proofs.Ytaifihoheieneaa.Chk
