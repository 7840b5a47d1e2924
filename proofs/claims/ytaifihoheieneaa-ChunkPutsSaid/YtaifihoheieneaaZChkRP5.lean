/- The contract of flumeref06.Put: the kinds 192, 194. Conditions: the chunk's lists lie in blocks of before. -/
import Derived.Test.YtaifihoheieneaaZChkRBase
import Derived.Test.YtaifihoheieneaaZChkRP4
import Derived.Test.YtaifihoheieneaaZChkRP6
namespace Go.Proofs.Ytaifihoheieneaa.Chk
open Go.RowKit Go.Proofs.Ytaifihoheieneaa.Mem Go.Proofs.Ytaifihoheieneaa.Octet Go.Proofs.Ytaifihoheieneaa.Prm
set_option linter.unusedVariables false
set_option linter.unusedSimpArgs false
set_option maxHeartbeats 4000000 in
set_option maxRecDepth 100000 in
theorem rput_192 (lo hi : Nat) (cs : Array Value) (c : Ck) (w : World) (hC : CkV w lo hi cs c) (hhi : hi ≤ w.heap.size) (hBd : CkB c) (hL : CkL c) (hk : c.k = 192) :
    Calls Try.prog 14 #[.agg cs] w (PutC w c) := by
  have hsz := hC.size
  have hbw : w.heap.size < (w.alloc (.cells cs 31)).heap.size := by simp
  have B0 : Below w.heap.size w (w.alloc (.cells cs 31)) := (Below.refl _ w).alloc (Nat.le_refl _) _
  have bC := Blk.new w cs 31
  have hC1 := hC.fr (S := nothing) ((Fr.refl _ w).alloc (.cells cs 31)) (fun _ _ _ h => h)
  have c0 := hC.c0
  rw [hk] at c0
  have hlen := bB_len hL
  have HK := Lib.hid hk
  have HHI := Lib.hid hhi
  have kk : kn c.k = true := by rw [hk]; rfl
  have HKN := Lib.hid kk
  obtain ⟨ib, hib, hbz0, hbz1, hbz2⟩ := info_parts info_b
  clear hk kk hhi
  have HE := Lib.hid (show bE c = 0 by simp [bE, HK.out])
  have HF := Lib.hid (show fl c = 0 by simp [fl, HK.out])
  have HBB := Lib.hid (show [] ++ b32 c.tsn ++ sB c.skips = bB c by simp [bB, HK.out])
  have l16 := hL.skips
  have hbs := hBd.skips
  have cc := (bC.cell 0).trans c0
  go_enter Try.func14, Try.ntmps14
  go_wp2_with fail
  refine (rknown_calls _ _ (by decide)).mono ?_
  rintro e wk ⟨rfl, hwk⟩
  rw [hwk]
  clear hwk cc
  generalize w.alloc (.cells cs 31) = w1 at *
  have H := NewP.nil w1.heap.size w1 (Nat.le_refl _)
  obtain ⟨kv, hkv⟩ : ∃ kv : Nat, kv = ([] : List Int).length := ⟨_, rfl⟩
  have HKV := Lib.hid hkv
  clear hkv
  have cc := (H.cell bC hbw (i := 5)).trans hC.c5
  have ww := u64w hBd.tsn
  go_wp2_with fail
  -- c.tsn the number; 4 how many bytes; hBd.tsn its bounds; txt_b32: txt's name
  refine (rq_calls _ _ (c.tsn) 4 _ H.zero (hBd.tsn).1 (hBd.tsn).2 (by decide) (by simp [b16_len, b32_len]; try omega)).mono ?_
  rintro e wp ⟨Ap, kp, pp, rfl, hkp, HP⟩
  rw [txt_b32] at hkp HP
  have H' := H.app HP
  have HKV' := Lib.hid hkp
  clear H HKV HP hkp
  have H := H'
  have HKV := HKV'
  clear H' HKV'
  clear cc ww
  obtain ⟨A16, p16, e16, S16⟩ := hC1.c16
  have cc := (H.cell bC hbw (i := 16)).trans e16
  have hPl : ([] ++ b32 c.tsn).length = 4 := rfl
  generalize [] ++ b32 c.tsn = P at H HBB hPl HKV
  have HS16 := Lib.hid S16
  clear HKV S16
  go_wp2_with fail
  go_loopw [5, 216] (fun v i wr => ∃ j : Nat, j ≤ c.skips.length ∧ i = .int .i64 j ∧ NewP w1.heap.size w1 v (P ++ sB (c.skips.take j)) wr) (fun _ i _ => c.skips.length - (intOf i).toNat)
  case atStart => exact ⟨0, Nat.zero_le _, rfl, by simpa [sB] using H⟩
  case round =>
    clear H cc
    obtain ⟨j, hj, rfl, H⟩ := hrel
    obtain ⟨Ap, kp, pp, rfl, hkp⟩ := H.shape
    by_cases hlt : j < c.skips.length
    · have S9 := HS16.out.fr (Bl.fr H.bel) (fun k _ h2 h3 => by have := HHI.out; omega)
      obtain ⟨ad, rfl, h1, h2, h3, h4, h5⟩ := S9 j hlt
      have hS := hbs _ (List.getElem_mem hlt)
      have HT := Lib.hid (sB_take c.skips j hlt)
      have hLL := sB_len (c.skips.take j)
      rw [List.length_take] at hLL
      have hlz : (P ++ sB (c.skips.take j)).length ≤ 8000000010 := by rw [List.length_append, hLL, hPl]; omega
      obtain ⟨Z, hZ⟩ : ∃ Z, P ++ sB (c.skips.take j) = Z := ⟨_, rfl⟩
      rw [hZ] at H hlz
      have HZ := Lib.hid hZ
      generalize c.skips[j] = s at h3 h4 h5 hS HT
      obtain ⟨x, y, z⟩ := s
      have hx : 0 ≤ x ∧ x < 65536 := hS.1
      have hzz : 0 ≤ z ∧ z < 4294967296 := hS.2
      rw [add_add_ _ _ _ (by decide)] at h4 h5
      replace h3 : wr.cell? (ad.add (j * 3)) = some (.int .u16 x) := h3
      replace h4 : wr.cell? ⟨(ad.add (j * 3)).block, (ad.add (j * 3)).off + 1, none⟩ = some (.bool y) := h4
      replace h5 : wr.cell? ⟨(ad.add (j * 3)).block, (ad.add (j * 3)).off + 2, none⟩ = some (.int .u32 z) := h5
      have hjl : (j : Int) < c.skips.length := by omega
      have bS := Blk.new wr #[.int .u16 x, .bool y, .int .u32 z] 75
      have H2 := H.bl ((Below.refl wr.heap.size wr).alloc (Nat.le_refl _) (.cells #[.int .u16 x, .bool y, .int .u32 z] 75))
      have wx := u64w (r16 hx)
      clear S9 H hS hkp hLL hZ
      have H := H2
      clear H2
      go_upto_region 56 with fail
      generalize wr.alloc (.cells #[.int .u16 x, .bool y, .int .u32 z] 75) = ws at *
      generalize wr.heap.size = gS at *
      clear h3 h4 h5
      have cS0 := bS.cell 0
      have cS1 := bS.cell 1
      have cS2 := bS.cell 2
      simp at cS0 cS1 cS2
      go_wp2_with fail
      -- a put within a round; x the number, 2 bytes, (r16 hx) bounds, txt_b16 txt's name; the loop's own struct stays
      refine (rq_calls _ _ (x) 2 _ H.zero ((r16 hx)).1 ((r16 hx)).2 (by decide) (by simp [b16_len, b32_len]; omega)).mono ?_
      rintro e wp ⟨A9, k9, p9, rfl, hk9, HP⟩
      rw [txt_b16] at HP
      replace bS := bS.fr HP.2.2 (fun h => OwnB.ne H.own bS (by decide) h)
      have H' := H.app HP
      clear H HP hk9
      have H := H'
      clear H'
      have hmm : 0 ≤ z % 65536 ∧ z % 65536 < 4294967296 := by omega
      have hm2 : z.tmod 65536 = z % 65536 := Int.tmod_eq_emod_of_nonneg hzz.1
      have wz := u64w hmm
      clear cS0 cS1 cS2
      have cS0 := bS.cell 0
      have cS1 := bS.cell 1
      have cS2 := bS.cell 2
      simp at cS0 cS1 cS2
      go_wp2_with fail
      -- a put within a round; z % 65536 the number, 2 bytes, hmm bounds, txt_b16 txt's name; the loop's own struct stays
      refine (rq_calls _ _ (z % 65536) 2 _ H.zero (hmm).1 (hmm).2 (by decide) (by simp [b16_len, b32_len]; omega)).mono ?_
      rintro e wp ⟨A9, k9, p9, rfl, hk9, HP⟩
      rw [txt_b16] at HP
      replace bS := bS.fr HP.2.2 (fun h => OwnB.ne H.own bS (by decide) h)
      have H' := H.app HP
      clear H HP hk9
      have H := H'
      clear H'
      clear hm2 wz
      have HW := Lib.hid (show NewP w1.heap.size w1 _ (P ++ sB (c.skips.take (j + 1))) _ by rw [HT.out, ← List.append_assoc, ← List.append_assoc]; first | (rw [HZ.out]; exact H) | (rw [← List.append_assoc, HZ.out]; exact H))
      clear H bS cS0 cS1 cS2 HT
      go_wp2
      go_roundw
      case rel => exact ⟨j + 1, by omega, by go_num, HW.out⟩
      case measure => simp [intOf]; omega
    · obtain rfl : j = c.skips.length := by omega
      rw [List.take_length] at H hkp
      have hjl : ¬ ((c.skips.length : Nat) : Int) < c.skips.length := by omega
      have HKV := Lib.hid hkp
      clear hkp hlt hj
      -- H's bytes are the body's; the flags' value is 0 (HF: fl c = it), the kind 192
      rw [HBB.out] at H HKV
      have HKL := HKV.out
      obtain ⟨bs, hbs⟩ : ∃ bs, bB c = bs := ⟨_, rfl⟩
      have HBS := Lib.hid hbs
      rw [hbs] at H HKL hlen
      have hkb : kp ≤ 10000000000 := by omega
      have hwk : IntKind.i64.wrap ((kp : Int) + 4) = (kp : Int) + 4 := IntWalk.i64_in _ (by omega)
      have HKB := Lib.hid HKL
      have hs0 := H.bel.size
      have B5 := Bl.trans B0 (Bl.low H.bel (Nat.le_of_lt hbw))
      by_cases hl : 65535 < bs.length + 4
      · have he := cE_long HKN.out HE.out (by rw [HBS.out]; exact hl)
        have HE2 := Lib.hid he
        have hl2 : decide ((65535 : Int) < (kp : Int) + 4) = true := decide_eq_true (by omega)
        clear he hl HKL hbs HKV hkb
        go_wp2
        go_ret2
        unfold PutC
        rw [cO_bad (by rw [HE2.out]; decide), HE2.out]
        exact ⟨B5, none, 0, rfl, OwnB.nil _ _ _⟩
      · have he := cE_ok HKN.out HE.out (by rw [HBS.out]; exact hl)
        have HE2 := Lib.hid he
        have hl2 : decide ((65535 : Int) < (kp : Int) + 4) = false := decide_eq_false (by omega)
        have hb4 : 0 ≤ (kp : Int) + 4 ∧ (kp : Int) + 4 < 4294967296 := by omega
        have ww := u64w hb4
        have hlb : bs.length + 4 ≤ 65535 := by omega
        clear he hl HKL hbs HKV hkb hlen
        -- flags 0, kind 192, the length (kp : Int) + 4, the world wr
        go_upto_region 75 with fail
        have own2 : OwnB (wr.alloc (.cells #[.int .u8 192, .int .u8 0] 5)) wr.heap.size 5 (.slice (some ⟨wr.heap.size, 0, none⟩) 2 2) [192, 0] := ⟨rfl, .inr ⟨wr.heap.size, 2, #[.int .u8 192, .int .u8 0], rfl, Nat.le_refl _, heap_alloc_new wr _, Nat.le_refl _, (by decide), rfl, rfl⟩⟩
        have hb2 : wr.heap.size ≤ (wr.alloc (.cells #[.int .u8 192, .int .u8 0] 5)).heap.size := by simp
        have H2 : NewP wr.heap.size (wr.alloc (.cells #[.int .u8 192, .int .u8 0] 5)) (.slice (some ⟨wr.heap.size, 0, none⟩) 2 2) [192, 0] (wr.alloc (.cells #[.int .u8 192, .int .u8 0] 5)) := ⟨own2, Below.refl _ _, hb2⟩
        have HB2 : Below wr.heap.size wr (wr.alloc (.cells #[.int .u8 192, .int .u8 0] 5)) := (Below.refl _ wr).alloc (Nat.le_refl _) _
        generalize wr.alloc (.cells #[.int .u8 192, .int .u8 0] 5) = wout at *
        clear own2 hb2
        go_wp2_with fail
        refine (rq_calls _ _ ((kp : Int) + 4) 2 _ H2.zero hb4.1 hb4.2 (by decide) (by simp)).mono ?_
        rintro e ws ⟨As, ks, ps, rfl, hks, HS⟩
        rw [txt_b16] at hks HS
        have H3 := H2.app HS
        have HKS := Lib.hid hks
        have HBWR := Lib.hid HB2
        have HB3 := Bl.trans HB2 H3.bel
        have o3 := OwnB.fr H.own (Bl.fr HB3) (fun k h1 h2 => by have := OwnB.lt H.own k h1; omega)
        obtain ⟨A6, c6, e6, -, -, -, rd⟩ := SlB.of_own o3
        injection e6 with e61 e62 e63
        subst e61; subst e63
        have hln : ([192, 0] ++ b16 ((kp : Int) + 4)).length + bs.length ≤ 140737488355328 := by simp [b16_len]; omega
        clear H2 HS HB2 HB3 hks e62 o3 hl2 ww hwk
        have HN3 := Lib.hid H3
        go_wp2_with (at_builtin; refine wpList_append_b _ rfl (.tmp 309) (.tmp 310) _ rfl wr.heap.size 5 ib Try.underlying29 hib hbz0 hbz1 hbz2 _ ([192, 0] ++ b16 ((kp : Int) + 4)) rfl H3.own _ _ _ _ _ bs rfl HKB.out rd hln (Nat.le_trans H3.hb H3.bel.size) ?_; intro v7 w7 hown hg hat; have o7 : OwnB w7 wr.heap.size 5 v7 ([192, 0] ++ b16 ((kp : Int) + 4) ++ bs) := hown; have HB7 := Lib.hid (Bl.trans HN3.out.bel (Bl.of_fr ((Fr.refl _ ws).grown (S := fun k => wr.heap.size ≤ k) hg (fun k hk => .inl (OwnB.ge HN3.out.own k hk))) (Nat.le_trans HN3.out.hb HN3.out.bel.size) (fun k hk => hk))); obtain ⟨A7, n7, c7, rfl, hn7⟩ : ∃ A n c, v7 = .slice A n c ∧ n = (([192, 0] : List Int) ++ b16 ((kp : Int) + 4) ++ bs).length := (by obtain ⟨A, c, e, -⟩ := OwnB.slice o7; exact ⟨A, _, c, e, rfl⟩); clear hn7; clear hown hg hat rd H3)
        have CPD := rpad_calls _ _ 4 w7 (OwnB.low o7 (Nat.zero_le _)) (by simp [b16_len]; omega) (by decide)
        have hl7 : (([192, 0] : List Int) ++ b16 ((kp : Int) + 4) ++ bs).length = 4 + bs.length := by simp [b16_len]; omega
        rw [hl7] at CPD
        refine CPD.mono ?_
        rintro e w8 ⟨A8, k8, c8, rfl, hk8, HP8⟩
        have HZ : [192, 0] ++ b16 ((kp : Int) + 4) ++ bs ++ List.replicate (padTo (4 + bs.length) 4) 0 = cB c := by
          unfold cB
          rw [HK.out, HF.out, HBS.out, show (((bs.length + 4 : Nat) : Int)) = (kp : Int) + 4 by have h9 := HKB.out; omega, show padTo (4 + bs.length) 4 = (4 - (bs.length + 4) % 4) % 4 by unfold padTo; rw [if_neg (by decide)]; show (4 - (4 + bs.length) % 4) % 4 = _; rw [Nat.add_comm]]
        rw [HZ] at HP8 hk8
        have N8 : NewP wr.heap.size wout (.slice A8 k8 c8) (cB c) w8 := NewP.app ⟨o7, HB7.out, HN3.out.hb⟩ HP8
        have BF2 : Below w.heap.size w w8 := Bl.trans B5 (Bl.low (Bl.trans HBWR.out N8.bel) B5.size)
        have HK8 := Lib.hid hk8
        clear HP8 hk8 HZ CPD o7
        go_wp2
        go_ret2
        unfold PutC
        rw [cO_ok HE2.out, HE2.out]
        have hk8' := HK8.out
        subst hk8'
        exact ⟨BF2, A8, c8, rfl, OwnB.low N8.own B5.size⟩
set_option maxHeartbeats 4000000 in
set_option maxRecDepth 100000 in
theorem rput_194 (lo hi : Nat) (cs : Array Value) (c : Ck) (w : World) (hC : CkV w lo hi cs c) (hhi : hi ≤ w.heap.size) (hBd : CkB c) (hL : CkL c) (hk : c.k = 194) :
    Calls Try.prog 14 #[.agg cs] w (PutC w c) := by
  have hsz := hC.size
  have hbw : w.heap.size < (w.alloc (.cells cs 31)).heap.size := by simp
  have B0 : Below w.heap.size w (w.alloc (.cells cs 31)) := (Below.refl _ w).alloc (Nat.le_refl _) _
  have bC := Blk.new w cs 31
  have hC1 := hC.fr (S := nothing) ((Fr.refl _ w).alloc (.cells cs 31)) (fun _ _ _ h => h)
  have c0 := hC.c0
  rw [hk] at c0
  have hlen := bB_len hL
  have HK := Lib.hid hk
  have HHI := Lib.hid hhi
  have kk : kn c.k = true := by rw [hk]; rfl
  have HKN := Lib.hid kk
  obtain ⟨ib, hib, hbz0, hbz1, hbz2⟩ := info_parts info_b
  clear hk kk hhi
  have HE := Lib.hid (show bE c = 0 by simp [bE, HK.out])
  have HF := Lib.hid (show fl c = 0 by simp [fl, HK.out])
  have HBB := Lib.hid (show [] ++ b32 c.tsn ++ tB c.skips = bB c by simp [bB, HK.out])
  have l16 := hL.skips
  have hbs := hBd.skips
  have cc := (bC.cell 0).trans c0
  go_enter Try.func14, Try.ntmps14
  go_wp2_with fail
  refine (rknown_calls _ _ (by decide)).mono ?_
  rintro e wk ⟨rfl, hwk⟩
  rw [hwk]
  clear hwk cc
  generalize w.alloc (.cells cs 31) = w1 at *
  have H := NewP.nil w1.heap.size w1 (Nat.le_refl _)
  obtain ⟨kv, hkv⟩ : ∃ kv : Nat, kv = ([] : List Int).length := ⟨_, rfl⟩
  have HKV := Lib.hid hkv
  clear hkv
  have cc := (H.cell bC hbw (i := 5)).trans hC.c5
  have ww := u64w hBd.tsn
  go_wp2_with fail
  -- c.tsn the number; 4 how many bytes; hBd.tsn its bounds; txt_b32: txt's name
  refine (rq_calls _ _ (c.tsn) 4 _ H.zero (hBd.tsn).1 (hBd.tsn).2 (by decide) (by simp [b16_len, b32_len]; try omega)).mono ?_
  rintro e wp ⟨Ap, kp, pp, rfl, hkp, HP⟩
  rw [txt_b32] at hkp HP
  have H' := H.app HP
  have HKV' := Lib.hid hkp
  clear H HKV HP hkp
  have H := H'
  have HKV := HKV'
  clear H' HKV'
  clear cc ww
  obtain ⟨A16, p16, e16, S16⟩ := hC1.c16
  have cc := (H.cell bC hbw (i := 16)).trans e16
  have hPl : ([] ++ b32 c.tsn).length = 4 := rfl
  generalize [] ++ b32 c.tsn = P at H HBB hPl HKV
  have HS16 := Lib.hid S16
  clear HKV S16
  go_wp2_with fail
  go_loopw [5, 216] (fun v i wr => ∃ j : Nat, j ≤ c.skips.length ∧ i = .int .i64 j ∧ NewP w1.heap.size w1 v (P ++ tB (c.skips.take j)) wr) (fun _ i _ => c.skips.length - (intOf i).toNat)
  case atStart => exact ⟨0, Nat.zero_le _, rfl, by simpa [tB] using H⟩
  case round =>
    clear H cc
    obtain ⟨j, hj, rfl, H⟩ := hrel
    obtain ⟨Ap, kp, pp, rfl, hkp⟩ := H.shape
    by_cases hlt : j < c.skips.length
    · have S9 := HS16.out.fr (Bl.fr H.bel) (fun k _ h2 h3 => by have := HHI.out; omega)
      obtain ⟨ad, rfl, h1, h2, h3, h4, h5⟩ := S9 j hlt
      have hS := hbs _ (List.getElem_mem hlt)
      have HT := Lib.hid (tB_take c.skips j hlt)
      have hLL := tB_len (c.skips.take j)
      rw [List.length_take] at hLL
      have hlz : (P ++ tB (c.skips.take j)).length ≤ 8000000010 := by rw [List.length_append, hLL, hPl]; omega
      obtain ⟨Z, hZ⟩ : ∃ Z, P ++ tB (c.skips.take j) = Z := ⟨_, rfl⟩
      rw [hZ] at H hlz
      have HZ := Lib.hid hZ
      generalize c.skips[j] = s at h3 h4 h5 hS HT
      obtain ⟨x, y, z⟩ := s
      have hx : 0 ≤ x ∧ x < 65536 := hS.1
      have hzz : 0 ≤ z ∧ z < 4294967296 := hS.2
      rw [add_add_ _ _ _ (by decide)] at h4 h5
      replace h3 : wr.cell? (ad.add (j * 3)) = some (.int .u16 x) := h3
      replace h4 : wr.cell? ⟨(ad.add (j * 3)).block, (ad.add (j * 3)).off + 1, none⟩ = some (.bool y) := h4
      replace h5 : wr.cell? ⟨(ad.add (j * 3)).block, (ad.add (j * 3)).off + 2, none⟩ = some (.int .u32 z) := h5
      have hjl : (j : Int) < c.skips.length := by omega
      have bS := Blk.new wr #[.int .u16 x, .bool y, .int .u32 z] 75
      have H2 := H.bl ((Below.refl wr.heap.size wr).alloc (Nat.le_refl _) (.cells #[.int .u16 x, .bool y, .int .u32 z] 75))
      have wx := u64w (r16 hx)
      clear S9 H hS hkp hLL hZ
      have H := H2
      clear H2
      go_upto_region 56 with fail
      generalize wr.alloc (.cells #[.int .u16 x, .bool y, .int .u32 z] 75) = ws at *
      generalize wr.heap.size = gS at *
      clear h3 h4 h5
      have cS0 := bS.cell 0
      have cS1 := bS.cell 1
      have cS2 := bS.cell 2
      simp at cS0 cS1 cS2
      go_wp2_with fail
      -- a put within a round; x the number, 2 bytes, (r16 hx) bounds, txt_b16 txt's name; the loop's own struct stays
      refine (rq_calls _ _ (x) 2 _ H.zero ((r16 hx)).1 ((r16 hx)).2 (by decide) (by simp [b16_len, b32_len]; omega)).mono ?_
      rintro e wp ⟨A9, k9, p9, rfl, hk9, HP⟩
      rw [txt_b16] at HP
      replace bS := bS.fr HP.2.2 (fun h => OwnB.ne H.own bS (by decide) h)
      have H' := H.app HP
      clear H HP hk9
      have H := H'
      clear H'
      have wz := u64w hzz
      clear cS0 cS1 cS2
      cases y with
      | false =>
        have cS0 := bS.cell 0
        have cS1 := bS.cell 1
        have cS2 := bS.cell 2
        simp at cS0 cS1 cS2
        go_wp2_with fail
        -- a put within a round; 0 the number, 2 bytes, (show (0 : Int) ≤ 0 ∧ (0 : Int) < 4294967296 by decide) bounds, txt_b16 txt's name; the loop's own struct stays
        refine (rq_calls _ _ (0) 2 _ H.zero ((show (0 : Int) ≤ 0 ∧ (0 : Int) < 4294967296 by decide)).1 ((show (0 : Int) ≤ 0 ∧ (0 : Int) < 4294967296 by decide)).2 (by decide) (by simp [b16_len, b32_len]; omega)).mono ?_
        rintro e wp ⟨A9, k9, p9, rfl, hk9, HP⟩
        rw [txt_b16] at HP
        replace bS := bS.fr HP.2.2 (fun h => OwnB.ne H.own bS (by decide) h)
        have H' := H.app HP
        clear H HP hk9
        have H := H'
        clear H'
        clear cS0 cS1 cS2
        have cS0 := bS.cell 0
        have cS1 := bS.cell 1
        have cS2 := bS.cell 2
        simp at cS0 cS1 cS2
        go_wp2_with fail
        -- a put within a round; z the number, 4 bytes, hzz bounds, txt_b32 txt's name; the loop's own struct stays
        refine (rq_calls _ _ (z) 4 _ H.zero (hzz).1 (hzz).2 (by decide) (by simp [b16_len, b32_len]; omega)).mono ?_
        rintro e wp ⟨A9, k9, p9, rfl, hk9, HP⟩
        rw [txt_b32] at HP
        replace bS := bS.fr HP.2.2 (fun h => OwnB.ne H.own bS (by decide) h)
        have H' := H.app HP
        clear H HP hk9
        have H := H'
        clear H'
        clear wz
        have HW := Lib.hid (show NewP w1.heap.size w1 _ (P ++ tB (c.skips.take (j + 1))) _ by rw [HT.out, ← List.append_assoc, ← List.append_assoc]; first | (rw [HZ.out]; exact H) | (rw [← List.append_assoc, HZ.out]; exact H))
        clear H bS cS0 cS1 cS2 HT
        go_wp2
        go_roundw
        case rel => exact ⟨j + 1, by omega, by go_num, HW.out⟩
        case measure => simp [intOf]; omega
      | true =>
        have cS0 := bS.cell 0
        have cS1 := bS.cell 1
        have cS2 := bS.cell 2
        simp at cS0 cS1 cS2
        go_wp2_with fail
        -- a put within a round; 1 the number, 2 bytes, (show (0 : Int) ≤ 1 ∧ (1 : Int) < 4294967296 by decide) bounds, txt_b16 txt's name; the loop's own struct stays
        refine (rq_calls _ _ (1) 2 _ H.zero ((show (0 : Int) ≤ 1 ∧ (1 : Int) < 4294967296 by decide)).1 ((show (0 : Int) ≤ 1 ∧ (1 : Int) < 4294967296 by decide)).2 (by decide) (by simp [b16_len, b32_len]; omega)).mono ?_
        rintro e wp ⟨A9, k9, p9, rfl, hk9, HP⟩
        rw [txt_b16] at HP
        replace bS := bS.fr HP.2.2 (fun h => OwnB.ne H.own bS (by decide) h)
        have H' := H.app HP
        clear H HP hk9
        have H := H'
        clear H'
        clear cS0 cS1 cS2
        have cS0 := bS.cell 0
        have cS1 := bS.cell 1
        have cS2 := bS.cell 2
        simp at cS0 cS1 cS2
        go_wp2_with fail
        -- a put within a round; z the number, 4 bytes, hzz bounds, txt_b32 txt's name; the loop's own struct stays
        refine (rq_calls _ _ (z) 4 _ H.zero (hzz).1 (hzz).2 (by decide) (by simp [b16_len, b32_len]; omega)).mono ?_
        rintro e wp ⟨A9, k9, p9, rfl, hk9, HP⟩
        rw [txt_b32] at HP
        replace bS := bS.fr HP.2.2 (fun h => OwnB.ne H.own bS (by decide) h)
        have H' := H.app HP
        clear H HP hk9
        have H := H'
        clear H'
        clear wz
        have HW := Lib.hid (show NewP w1.heap.size w1 _ (P ++ tB (c.skips.take (j + 1))) _ by rw [HT.out, ← List.append_assoc, ← List.append_assoc]; first | (rw [HZ.out]; exact H) | (rw [← List.append_assoc, HZ.out]; exact H))
        clear H bS cS0 cS1 cS2 HT
        go_wp2
        go_roundw
        case rel => exact ⟨j + 1, by omega, by go_num, HW.out⟩
        case measure => simp [intOf]; omega
    · obtain rfl : j = c.skips.length := by omega
      rw [List.take_length] at H hkp
      have hjl : ¬ ((c.skips.length : Nat) : Int) < c.skips.length := by omega
      have HKV := Lib.hid hkp
      clear hkp hlt hj
      -- H's bytes are the body's; the flags' value is 0 (HF: fl c = it), the kind 194
      rw [HBB.out] at H HKV
      have HKL := HKV.out
      obtain ⟨bs, hbs⟩ : ∃ bs, bB c = bs := ⟨_, rfl⟩
      have HBS := Lib.hid hbs
      rw [hbs] at H HKL hlen
      have hkb : kp ≤ 10000000000 := by omega
      have hwk : IntKind.i64.wrap ((kp : Int) + 4) = (kp : Int) + 4 := IntWalk.i64_in _ (by omega)
      have HKB := Lib.hid HKL
      have hs0 := H.bel.size
      have B5 := Bl.trans B0 (Bl.low H.bel (Nat.le_of_lt hbw))
      by_cases hl : 65535 < bs.length + 4
      · have he := cE_long HKN.out HE.out (by rw [HBS.out]; exact hl)
        have HE2 := Lib.hid he
        have hl2 : decide ((65535 : Int) < (kp : Int) + 4) = true := decide_eq_true (by omega)
        clear he hl HKL hbs HKV hkb
        go_wp2
        go_ret2
        unfold PutC
        rw [cO_bad (by rw [HE2.out]; decide), HE2.out]
        exact ⟨B5, none, 0, rfl, OwnB.nil _ _ _⟩
      · have he := cE_ok HKN.out HE.out (by rw [HBS.out]; exact hl)
        have HE2 := Lib.hid he
        have hl2 : decide ((65535 : Int) < (kp : Int) + 4) = false := decide_eq_false (by omega)
        have hb4 : 0 ≤ (kp : Int) + 4 ∧ (kp : Int) + 4 < 4294967296 := by omega
        have ww := u64w hb4
        have hlb : bs.length + 4 ≤ 65535 := by omega
        clear he hl HKL hbs HKV hkb hlen
        -- flags 0, kind 194, the length (kp : Int) + 4, the world wr
        go_upto_region 75 with fail
        have own2 : OwnB (wr.alloc (.cells #[.int .u8 194, .int .u8 0] 5)) wr.heap.size 5 (.slice (some ⟨wr.heap.size, 0, none⟩) 2 2) [194, 0] := ⟨rfl, .inr ⟨wr.heap.size, 2, #[.int .u8 194, .int .u8 0], rfl, Nat.le_refl _, heap_alloc_new wr _, Nat.le_refl _, (by decide), rfl, rfl⟩⟩
        have hb2 : wr.heap.size ≤ (wr.alloc (.cells #[.int .u8 194, .int .u8 0] 5)).heap.size := by simp
        have H2 : NewP wr.heap.size (wr.alloc (.cells #[.int .u8 194, .int .u8 0] 5)) (.slice (some ⟨wr.heap.size, 0, none⟩) 2 2) [194, 0] (wr.alloc (.cells #[.int .u8 194, .int .u8 0] 5)) := ⟨own2, Below.refl _ _, hb2⟩
        have HB2 : Below wr.heap.size wr (wr.alloc (.cells #[.int .u8 194, .int .u8 0] 5)) := (Below.refl _ wr).alloc (Nat.le_refl _) _
        generalize wr.alloc (.cells #[.int .u8 194, .int .u8 0] 5) = wout at *
        clear own2 hb2
        go_wp2_with fail
        refine (rq_calls _ _ ((kp : Int) + 4) 2 _ H2.zero hb4.1 hb4.2 (by decide) (by simp)).mono ?_
        rintro e ws ⟨As, ks, ps, rfl, hks, HS⟩
        rw [txt_b16] at hks HS
        have H3 := H2.app HS
        have HKS := Lib.hid hks
        have HBWR := Lib.hid HB2
        have HB3 := Bl.trans HB2 H3.bel
        have o3 := OwnB.fr H.own (Bl.fr HB3) (fun k h1 h2 => by have := OwnB.lt H.own k h1; omega)
        obtain ⟨A6, c6, e6, -, -, -, rd⟩ := SlB.of_own o3
        injection e6 with e61 e62 e63
        subst e61; subst e63
        have hln : ([194, 0] ++ b16 ((kp : Int) + 4)).length + bs.length ≤ 140737488355328 := by simp [b16_len]; omega
        clear H2 HS HB2 HB3 hks e62 o3 hl2 ww hwk
        have HN3 := Lib.hid H3
        go_wp2_with (at_builtin; refine wpList_append_b _ rfl (.tmp 309) (.tmp 310) _ rfl wr.heap.size 5 ib Try.underlying29 hib hbz0 hbz1 hbz2 _ ([194, 0] ++ b16 ((kp : Int) + 4)) rfl H3.own _ _ _ _ _ bs rfl HKB.out rd hln (Nat.le_trans H3.hb H3.bel.size) ?_; intro v7 w7 hown hg hat; have o7 : OwnB w7 wr.heap.size 5 v7 ([194, 0] ++ b16 ((kp : Int) + 4) ++ bs) := hown; have HB7 := Lib.hid (Bl.trans HN3.out.bel (Bl.of_fr ((Fr.refl _ ws).grown (S := fun k => wr.heap.size ≤ k) hg (fun k hk => .inl (OwnB.ge HN3.out.own k hk))) (Nat.le_trans HN3.out.hb HN3.out.bel.size) (fun k hk => hk))); obtain ⟨A7, n7, c7, rfl, hn7⟩ : ∃ A n c, v7 = .slice A n c ∧ n = (([194, 0] : List Int) ++ b16 ((kp : Int) + 4) ++ bs).length := (by obtain ⟨A, c, e, -⟩ := OwnB.slice o7; exact ⟨A, _, c, e, rfl⟩); clear hn7; clear hown hg hat rd H3)
        have CPD := rpad_calls _ _ 4 w7 (OwnB.low o7 (Nat.zero_le _)) (by simp [b16_len]; omega) (by decide)
        have hl7 : (([194, 0] : List Int) ++ b16 ((kp : Int) + 4) ++ bs).length = 4 + bs.length := by simp [b16_len]; omega
        rw [hl7] at CPD
        refine CPD.mono ?_
        rintro e w8 ⟨A8, k8, c8, rfl, hk8, HP8⟩
        have HZ : [194, 0] ++ b16 ((kp : Int) + 4) ++ bs ++ List.replicate (padTo (4 + bs.length) 4) 0 = cB c := by
          unfold cB
          rw [HK.out, HF.out, HBS.out, show (((bs.length + 4 : Nat) : Int)) = (kp : Int) + 4 by have h9 := HKB.out; omega, show padTo (4 + bs.length) 4 = (4 - (bs.length + 4) % 4) % 4 by unfold padTo; rw [if_neg (by decide)]; show (4 - (4 + bs.length) % 4) % 4 = _; rw [Nat.add_comm]]
        rw [HZ] at HP8 hk8
        have N8 : NewP wr.heap.size wout (.slice A8 k8 c8) (cB c) w8 := NewP.app ⟨o7, HB7.out, HN3.out.hb⟩ HP8
        have BF2 : Below w.heap.size w w8 := Bl.trans B5 (Bl.low (Bl.trans HBWR.out N8.bel) B5.size)
        have HK8 := Lib.hid hk8
        clear HP8 hk8 HZ CPD o7
        go_wp2
        go_ret2
        unfold PutC
        rw [cO_ok HE2.out, HE2.out]
        have hk8' := HK8.out
        subst hk8'
        exact ⟨BF2, A8, c8, rfl, OwnB.low N8.own B5.size⟩
end Go.Proofs.Ytaifihoheieneaa.Chk
namespace Go.Proofs.Ytaifihoheieneaa.Chk
open Go.RowKit Go.Proofs.Ytaifihoheieneaa.Mem Go.Proofs.Ytaifihoheieneaa.Octet Go.Proofs.Ytaifihoheieneaa.Prm
set_option linter.unusedVariables false
set_option linter.unusedSimpArgs false
set_option maxHeartbeats 4000000 in
set_option maxRecDepth 100000 in
theorem rput_none (lo hi : Nat) (cs : Array Value) (c : Ck) (w : World) (hC : CkV w lo hi cs c) (hBd : CkB c) (hk : kn c.k = false) :
    Calls Try.prog 14 #[.agg cs] w (PutC w c) := by
  have B0 : Below w.heap.size w (w.alloc (.cells cs 31)) := (Below.refl _ w).alloc (Nat.le_refl _) _
  have bC := Blk.new w cs 31
  have cc := (bC.cell 0).trans hC.c0
  have hE : cE c = 60 := by unfold cE; rw [if_pos hk]
  have HE2 := Lib.hid hE
  have hkb := hBd.k
  have HK := Lib.hid hk
  clear hE hk
  generalize c.k = k at *
  go_enter Try.func14, Try.ntmps14
  go_wp2_with fail
  refine (rknown_calls k _ hkb).mono ?_
  rintro e wk ⟨rfl, hwk⟩
  rw [hwk, HK.out]
  clear hwk cc
  go_wp2
  go_ret2
  unfold PutC
  rw [cO_bad (by rw [HE2.out]; decide), HE2.out]
  exact ⟨B0, none, 0, rfl, OwnB.nil _ _ _⟩
theorem rput_calls (lo hi : Nat) (cs : Array Value) (c : Ck) (w : World) (hC : CkV w lo hi cs c) (hhi : hi ≤ w.heap.size) (hBd : CkB c) (hL : CkL c) :
    Calls Try.prog 14 #[.agg cs] w (PutC w c) := by
  cases hk : kn c.k with
  | false => exact rput_none lo hi cs c w hC hBd hk
  | true =>
    simp [kn] at hk
    rcases hk with hk | hk | hk | hk | hk | hk | hk | hk | hk | hk | hk | hk | hk | hk | hk | hk | hk
    · exact rput_0 lo hi cs c w hC hhi hBd hL hk
    · exact rput_1 lo hi cs c w hC hhi hBd hL hk
    · exact rput_2 lo hi cs c w hC hhi hBd hL hk
    · exact rput_3 lo hi cs c w hC hhi hBd hL hk
    · exact rput_4 lo hi cs c w hC hhi hBd hL hk
    · exact rput_5 lo hi cs c w hC hhi hBd hL hk
    · exact rput_6 lo hi cs c w hC hhi hBd hL hk
    · exact rput_7 lo hi cs c w hC hhi hBd hL hk
    · exact rput_8 lo hi cs c w hC hhi hBd hL hk
    · exact rput_9 lo hi cs c w hC hhi hBd hL hk
    · exact rput_10 lo hi cs c w hC hhi hBd hL hk
    · exact rput_11 lo hi cs c w hC hhi hBd hL hk
    · exact rput_14 lo hi cs c w hC hhi hBd hL hk
    · exact rput_64 lo hi cs c w hC hhi hBd hL hk
    · exact rput_130 lo hi cs c w hC hhi hBd hL hk
    · exact rput_192 lo hi cs c w hC hhi hBd hL hk
    · exact rput_194 lo hi cs c w hC hhi hBd hL hk
end Go.Proofs.Ytaifihoheieneaa.Chk
