/- The walk of flumelaw03.CrcTells: true for all bytes, places and turned bits. No conditions but the row's own. -/
import Derived.Test.YtdapcjeofgimgaaCrcFlip
namespace Go.Proofs.Ytdapcjeofgimgaa.CrcTells
open Go.RowKit Go.Proofs.Ytdapcjeofgimgaa.Mem Go.Proofs.Ytdapcjeofgimgaa.Octet Go.Proofs.Ytdapcjeofgimgaa.Crc
set_option linter.unusedVariables false
set_option linter.unusedSimpArgs false
attribute [local go_sem] max2_mx min2_mn max_two min_two

/-- A cell of a row of its own, what stands in it, and the row behind a store. -/
theorem own_upd {w : World} {m : Nat} {A : Option Addr} {n cap : Nat} {bs : List Int} (h : OwnB w m 5 (.slice A n cap) bs) (k : Nat) (hk : k < n) :
    ∃ ad, A = some ad ∧ w.cell? (ad.add k) = some (.int .u8 (bs.getD k 0)) ∧ w.frozen? (ad.add k) = false ∧ m ≤ (ad.add k).block ∧
      ∀ x, OwnB (w.setCell (ad.add k) (.int .u8 x)) m 5 (.slice A n cap) (bs.set k x) := by
  have h' := RdB.of_own h
  obtain ⟨ad, e, -, ⟨x, hx⟩, h3, h4, h5⟩ := own_put h k hk
  refine ⟨ad, e, ?_, h3, h4, h5⟩
  obtain ⟨A', c', e2, -, -, hr⟩ := h'
  injection e2 with e3 e4 _
  subst e3; subst e4
  obtain ⟨ad', e5, hc⟩ := hr.at_ k hk
  rw [e] at e5; injection e5 with e5; subst e5
  rw [hc]
  simp [hk]
theorem t_bit (t : Int) (j : Nat) (h0 : 0 ≤ t) (h1 : t < 4294967296) : bits .and .u32 (t / 2 ^ j) 1 = ((t.toNat / 2 ^ j % 2 : Nat) : Int) := by
  have e0 : t / 2 ^ j = ((t.toNat / 2 ^ j : Nat) : Int) := by
    have hx : t = ((t.toNat : Nat) : Int) := by omega
    have e1 : ((t.toNat / 2 ^ j : Nat) : Int) = t / 2 ^ j := by rw [Int.natCast_ediv, ← hx]; simp
    rw [← e1]
  have hlt : t.toNat / 2 ^ j < 4294967296 := Nat.lt_of_le_of_lt (Nat.div_le_self _ _) (by omega)
  have a1 := u32_and_nat (t.toNat / 2 ^ j) 1 hlt (by decide)
  rw [nat_mask1] at a1
  rw [e0]
  exact a1
theorem x_bit (x : Int) (p : Nat) (h0 : 0 ≤ x) (h1 : x < 256) : bits .xor .u8 x (2 ^ (p % 8) % 256) = ((x.toNat ^^^ 2 ^ (p % 8) : Nat) : Int) := by
  have hp : 2 ^ (p % 8) < 256 := Nat.pow_lt_pow_right (a := 2) (n := 8) (by decide) (by omega)
  have e : (2 : Int) ^ (p % 8) % 256 = ((2 ^ (p % 8) : Nat) : Int) := by
    rw [show (2 : Int) ^ (p % 8) = ((2 ^ (p % 8) : Nat) : Int) by simp]
    generalize 2 ^ (p % 8) = q at hp ⊢
    omega
  have := u8_xor_nat x.toNat (2 ^ (p % 8)) (by omega) hp
  rw [show ((x.toNat : Nat) : Int) = x by omega] at this
  rw [e, this]
theorem k31_ (k : Nat) (h : k < 1000000) : ∃ X : Int, wrap64 ((k : Int) + 31) = X ∧ X = k + 31 := ⟨(k : Int) + 31, by unfold wrap64; omega, rfl⟩
theorem q8_ (q : Nat) (h : q < 1000000) : ∃ Y Z : Int, wrap64 (8 * (q : Int)) = Y ∧ wrap64 (Y + 32) = Z ∧ Y = 8 * q ∧ Z = 8 * q + 32 := ⟨8 * (q : Int), 8 * (q : Int) + 32, by unfold wrap64; omega, by unfold wrap64; omega, rfl, rfl⟩
theorem dA {k q : Nat} {X Y : Int} (hx : X = k + 31) (hy : Y = 8 * q) (h : 8 * q ≤ k + 31) : decide (Y ≤ X) = true := decide_eq_true (by omega)
theorem dB {k q : Nat} {X Y : Int} (hx : X = k + 31) (hy : Y = 8 * q) (h : ¬ 8 * q ≤ k + 31) : decide (Y ≤ X) = false := decide_eq_false (by omega)
theorem dC {k q : Nat} {Z : Int} (hz : Z = 8 * q + 32) (h : k < 8 * q + 32) : decide ((k : Int) < Z) = true := decide_eq_true (by omega)
theorem dD {k q : Nat} {Z : Int} (hz : Z = 8 * q + 32) (h : ¬ k < 8 * q + 32) : decide ((k : Int) < Z) = false := decide_eq_false (by omega)
theorem dO1 {k q : Nat} (h : ¬ k < 8 * q + 32) : k + 31 < 8 * q ∨ 8 * q + 32 ≤ k := by omega
theorem dO2 {k q : Nat} (h : ¬ 8 * q ≤ k + 31) : k + 31 < 8 * q ∨ 8 * q + 32 ≤ k := by omega
set_option maxHeartbeats 4000000 in
set_option maxRecDepth 100000 in
theorem walk (a : Option Addr) (cap : Nat) (l : List Int) (p0 p1 : Int) (t : Int) (w : World) (hr : ReadsI w .u8 a l) (hc : l.length ≤ cap) (hm : cap ≤ maxLen) (hy : l.length * 1 ≤ 140737488351232)
    (hw : ∀ x ∈ l, (Lit.int .u8 x).wf = true) (hnil : a = none → cap = 0) (hw0 : (Lit.int .i64 p0).wf = true) (hw1 : (Lit.int .i64 p1).wf = true) (hwt : (Lit.int .u32 t).wf = true) :
    Calls Try.prog 4 #[.slice a l.length cap, .agg #[.int .i64 p0, .int .i64 p1], .int .u32 t] w fun e w' => e = .returned (.bool true) ∧ Below w.heap.size w w' := by
  obtain ⟨K, hK⟩ : ∃ K : Nat, mn l.length 2000 = K := ⟨min l.length 2000, by unfold mn; split <;> omega⟩
  have hK1 : K ≤ l.length ∧ K ≤ 2000 := by unfold mn at hK; split at hK <;> omega
  have X0 := slb_cut hr hc hm hnil K hK1.1
  have hKc : K ≤ cap := by omega
  have ib : IsB (l.take K) := fun x hx => range_u8 x (hw x (List.mem_of_mem_take hx))
  have hlen : (l.take K).length = K := by rw [List.length_take]; omega
  have ht : 0 ≤ t ∧ t < 4294967296 := by simp [Lit.wf, IntKind.min, IntKind.max, IntKind.bits, IntKind.signed] at hwt; omega
  clear hr hw hnil hy hw0 hw1 hwt
  generalize hxs : l.take K = xs at X0 ib hlen
  obtain rfl : K = xs.length := hlen.symm
  have hx3 : xs.length ≤ 2000 := hK1.2
  clear hxs hK1 hlen
  have hbig : ([] : List Int).length + xs.length ≤ 140737488355328 := by simp; omega
  obtain ⟨i0, hi0, hz0, hz1, hz2⟩ := info_parts info_b
  have OT := Blk.new w #[.int .i64 p0, .int .i64 p1] 34
  have BT := (Below.refl w.heap.size w).alloc (Nat.le_refl _) (.cells #[.int .i64 p0, .int .i64 p1] 34)
  have XT := SlB.fr X0 (S := nothing) ((Fr.refl _ w).alloc (.cells #[.int .i64 p0, .int .i64 p1] 34)) (fun _ _ _ h => h)
  clear X0
  by_cases hn : xs.length < 12
  · have hn1 : decide ((xs.length : Int) < 12) = true := by simp; omega
    clear hn
    go_enter Try.func4, Try.ntmps4
    go_wp2_with fail
    refine (first_calls _).mono ?_
    rintro e w0 ⟨rfl, B0⟩
    have OT0 := OT.fr (Fr.of_below (S := nothing) B0) (fun h => h)
    have X0 := SlB.fr XT (Fr.of_below (S := nothing) B0) (fun _ _ _ h => h)
    have B1 := Bl.trans BT (Bl.low B0 BT.size)
    have hwo : w.heap.size < w0.heap.size := OT0.lt
    clear OT BT XT B0
    have own0 : (w0.alloc (.cells #[] 5)).ownsRow w0.heap.size 5 1 (.slice (some ⟨w0.heap.size, 0, none⟩) 0 0) ([] : List Int).length (byts []) :=
      ⟨rfl, .inr ⟨w0.heap.size, 0, #[], rfl, Nat.le_refl _, heap_alloc_new w0 _, Nat.le_refl _, Nat.zero_le _, rfl, rfl⟩⟩
    obtain ⟨A3, c3, e3, h31, h32, h33, rd2⟩ := SlB.fr X0 (S := nothing) ((Fr.refl _ w0).alloc (.cells #[] 5)) (fun _ _ _ h => h)
    injection e3 with e3 el4 e4
    subst e3; subst e4
    clear h31 h32 h33 el4
    go_wp2_with (at_builtin; refine wpList_append_b _ rfl (.tmp 15) (.tmp 20) _ rfl w0.heap.size 5 i0 Try.underlying22 hi0 hz0 hz1 hz2 _ [] rfl own0 _ _ _ _ _ xs rfl rfl rd2 hbig (by simp) ?_; intro v' w' hown hg hat; clear own0 rd2; have oB : OwnB w' w0.heap.size 5 v' xs := hown; have BB : Below w0.heap.size w0 w' := ((Below.refl _ _).alloc (Nat.le_refl _) _).grown hg (by simp) (fun k hk => by have hk' : some w0.heap.size = some k := hk; injection hk' with hk'; omega); clear hown hg hat; obtain ⟨Ab, cb, rfl, hxc, -⟩ := OwnB.slice oB; have OT1 := OT0.fr (Fr.of_below (S := nothing) BB) (fun h => h); have zc0 := OT1.cell 0; have zc1 := OT1.cell 1; simp at zc0 zc1; have B2 := Bl.trans B1 (Bl.low BB B1.size); have hsz := BB.size; clear OT0 B1 BB X0)
    go_ret
    exact ⟨rfl, B2⟩
  have hn1 : decide ((xs.length : Int) < 12) = false := by simp; omega
  by_cases ht0 : t = 0
  · have ht1 : (t == 0) = true := by simp [ht0]
    clear ht0 hn
    go_enter Try.func4, Try.ntmps4
    go_wp2_with fail
    refine (first_calls _).mono ?_
    rintro e w0 ⟨rfl, B0⟩
    have OT0 := OT.fr (Fr.of_below (S := nothing) B0) (fun h => h)
    have X0 := SlB.fr XT (Fr.of_below (S := nothing) B0) (fun _ _ _ h => h)
    have B1 := Bl.trans BT (Bl.low B0 BT.size)
    have hwo : w.heap.size < w0.heap.size := OT0.lt
    clear OT BT XT B0
    have own0 : (w0.alloc (.cells #[] 5)).ownsRow w0.heap.size 5 1 (.slice (some ⟨w0.heap.size, 0, none⟩) 0 0) ([] : List Int).length (byts []) :=
      ⟨rfl, .inr ⟨w0.heap.size, 0, #[], rfl, Nat.le_refl _, heap_alloc_new w0 _, Nat.le_refl _, Nat.zero_le _, rfl, rfl⟩⟩
    obtain ⟨A3, c3, e3, h31, h32, h33, rd2⟩ := SlB.fr X0 (S := nothing) ((Fr.refl _ w0).alloc (.cells #[] 5)) (fun _ _ _ h => h)
    injection e3 with e3 el4 e4
    subst e3; subst e4
    clear h31 h32 h33 el4
    go_wp2_with (at_builtin; refine wpList_append_b _ rfl (.tmp 15) (.tmp 20) _ rfl w0.heap.size 5 i0 Try.underlying22 hi0 hz0 hz1 hz2 _ [] rfl own0 _ _ _ _ _ xs rfl rfl rd2 hbig (by simp) ?_; intro v' w' hown hg hat; clear own0 rd2; have oB : OwnB w' w0.heap.size 5 v' xs := hown; have BB : Below w0.heap.size w0 w' := ((Below.refl _ _).alloc (Nat.le_refl _) _).grown hg (by simp) (fun k hk => by have hk' : some w0.heap.size = some k := hk; injection hk' with hk'; omega); clear hown hg hat; obtain ⟨Ab, cb, rfl, hxc, -⟩ := OwnB.slice oB; have OT1 := OT0.fr (Fr.of_below (S := nothing) BB) (fun h => h); have zc0 := OT1.cell 0; have zc1 := OT1.cell 1; simp at zc0 zc1; have B2 := Bl.trans B1 (Bl.low BB B1.size); have hsz := BB.size; clear OT0 B1 BB X0)
    go_ret
    exact ⟨rfl, B2⟩
  have ht1 : (t == 0) = false := by simp [ht0]
  have hw3 : wrap64 ((xs.length : Int) - 3) = (xs.length : Int) - 3 := by unfold wrap64; omega
  have hw31 : wrap64 (8 * (xs.length : Int) - 31) = 8 * (xs.length : Int) - 31 := by unfold wrap64; omega
  have hn2 : (3 : Int) ≤ xs.length := by omega
  have hn3 : (31 : Int) ≤ 8 * (xs.length : Int) := by omega
  have HT := Lib.hid ht0
  have HN := Lib.hid hn
  clear ht0 hn
  go_enter Try.func4, Try.ntmps4
  go_wp2_with fail
  refine (first_calls _).mono ?_
  rintro e w0 ⟨rfl, B0⟩
  have OT0 := OT.fr (Fr.of_below (S := nothing) B0) (fun h => h)
  have X0 := SlB.fr XT (Fr.of_below (S := nothing) B0) (fun _ _ _ h => h)
  have B1 := Bl.trans BT (Bl.low B0 BT.size)
  have hwo : w.heap.size < w0.heap.size := OT0.lt
  clear OT BT XT B0
  have own0 : (w0.alloc (.cells #[] 5)).ownsRow w0.heap.size 5 1 (.slice (some ⟨w0.heap.size, 0, none⟩) 0 0) ([] : List Int).length (byts []) :=
    ⟨rfl, .inr ⟨w0.heap.size, 0, #[], rfl, Nat.le_refl _, heap_alloc_new w0 _, Nat.le_refl _, Nat.zero_le _, rfl, rfl⟩⟩
  obtain ⟨A3, c3, e3, h31, h32, h33, rd2⟩ := SlB.fr X0 (S := nothing) ((Fr.refl _ w0).alloc (.cells #[] 5)) (fun _ _ _ h => h)
  injection e3 with e3 el4 e4
  subst e3; subst e4
  clear h31 h32 h33 el4
  go_wp2_with (at_builtin; refine wpList_append_b _ rfl (.tmp 15) (.tmp 20) _ rfl w0.heap.size 5 i0 Try.underlying22 hi0 hz0 hz1 hz2 _ [] rfl own0 _ _ _ _ _ xs rfl rfl rd2 hbig (by simp) ?_; intro v' w' hown hg hat; clear own0 rd2; have oB : OwnB w' w0.heap.size 5 v' xs := hown; have BB : Below w0.heap.size w0 w' := ((Below.refl _ _).alloc (Nat.le_refl _) _).grown hg (by simp) (fun k hk => by have hk' : some w0.heap.size = some k := hk; injection hk' with hk'; omega); clear hown hg hat; obtain ⟨Ab, cb, rfl, hxc, -⟩ := OwnB.slice oB; have OT1 := OT0.fr (Fr.of_below (S := nothing) BB) (fun h => h); have zc0 := OT1.cell 0; have zc1 := OT1.cell 1; simp at zc0 zc1; have B2 := Bl.trans B1 (Bl.low BB B1.size); have hsz := BB.size; clear OT0 B1 BB X0)
  obtain ⟨q, hqv, hq⟩ : ∃ q : Nat, wrap64 ((IntKind.u64.wrap p0).tmod ((xs.length : Int) - 3)) = q ∧ q + 4 ≤ xs.length := by
    have := HN.out
    have := um_range p0 ((xs.length : Int) - 3) (by omega) (by omega)
    unfold um at this
    exact ⟨(wrap64 ((IntKind.u64.wrap p0).tmod ((xs.length : Int) - 3))).toNat, by omega, by omega⟩
  rw [hqv]
  have SB := SlB.of_own oB
  have hcb : cb ≤ maxLen := by
    obtain ⟨A', cc, e, h1, h2, h3, h4⟩ := SB
    injection e with _ _ e2
    subst e2
    exact h2
  unfold maxLen at hcb
  refine (seal_calls _ _ Ab cb xs q w' SB (by omega) (by omega) ib hq).mono ?_
  clear hqv hw3
  rintro e w1 ⟨Bs, cs, rfl, os, B3⟩
  have OT2 := OT1.fr (Fr.of_below (S := nothing) B3) (fun h => h)
  replace B2 := Bl.trans B2 (Bl.low B3 B2.size)
  have hs1 := B3.size
  clear SB B3 oB OT1
  have hcs : cs ≤ 9223372036854775807 := by
    obtain ⟨A', cc, e, h1, h2, h3, h4⟩ := SlB.of_own os
    injection e with _ _ e2
    subst e2
    unfold maxLen at h2
    omega
  have iy := isb_sealW ib q
  have hl := sealW_len xs q
  have HS := Lib.hid (seal_twice hq)
  clear ib
  generalize sealW xs q = ys at *
  have C1 := sealed_calls _ _ Bs cs ys q w1 (by rw [hl]; exact SlB.of_own os) (by omega) hcs iy (by omega)
  rw [hl, HS.out, show decide (ys = ys) = true by simp] at C1
  have HC1 := Lib.hid C1
  have HL := Lib.hid hl
  clear C1 hl
  go_wp2_with fail
  refine HC1.out.mono ?_
  rintro e w2 ⟨rfl, B3⟩
  replace os := OwnB.fr os (Fr.of_below (S := nothing) B3) (fun _ _ h => h)
  have OT3 := OT2.fr (Fr.of_below (S := nothing) B3) (fun h => h)
  have zd0 := OT3.cell 0
  have zd1 := OT3.cell 1
  simp at zd0 zd1
  replace B2 := Bl.trans B2 (Bl.low B3 B2.size)
  clear B3 OT2 HC1 zc0 zc1
  obtain ⟨k, hk, HKV⟩ : ∃ k : Nat, k + 32 ≤ 8 * xs.length ∧ RowKit.Hid (wrap64 ((IntKind.u64.wrap p1).tmod (8 * (xs.length : Int) - 31)) = k) := by
    have := HN.out
    have := um_range p1 (8 * (xs.length : Int) - 31) (by omega) (by omega)
    unfold um at this
    exact ⟨(wrap64 ((IntKind.u64.wrap p1).tmod (8 * (xs.length : Int) - 31))).toNat, by omega, Lib.hid (by omega)⟩
  obtain ⟨X, hk31, hX⟩ := k31_ k (by omega)
  obtain ⟨Y, Z, hq8, hq32, hY, hZ⟩ := q8_ q (by omega)
  have HK31 := Lib.hid hk31
  have HQ8 := Lib.hid hq8
  have HQ32 := Lib.hid hq32
  clear hk31 hq8 hq32
  go_upto_region 11 with fail
  rw [HKV.out]
  clear HKV hw31 hn2 hn3 zd0 zd1 OT3
  have HQH := Lib.hid hq
  have HWB := Lib.hid (show w.heap.size ≤ w'.heap.size by omega)
  have HKH := Lib.hid hk
  by_cases h1 : 8 * q ≤ k + 31
  · have d1 := dA hX hY h1
    by_cases h2 : k < 8 * q + 32
    · have d2 := dC hZ h2
      clear h1 h2 hX hY hZ
      clear hq hk
      have hk31 := HK31.out
      have hq8 := HQ8.out
      have hq32 := HQ32.out
      go_wp2
      go_ret
      exact ⟨rfl, B2⟩
    · have d2 := dD hZ h2
      have hout := Lib.hid (dO1 h2)
      clear h1 h2 hX hY hZ
      clear hq hk
      have hk31 := HK31.out
      have hq8 := HQ8.out
      have hq32 := HQ32.out
      go_wp2_with fail
      clear hk31 hq8 hq32
      have hq := HQH.out
      have hk := HKH.out
      go_loopw [12] (fun i wi => ∃ j : Nat, j ≤ 32 ∧ i = .int .i64 j ∧ OwnB wi w'.heap.size 5 (.slice Bs xs.length cs) (flp ys k t.toNat j) ∧ Below w.heap.size w wi) (fun i _ => 32 - (intOf i).toNat)
      case atStart => exact ⟨0, Nat.zero_le _, rfl, os, B2⟩
      case round =>
        clear os B2
        obtain ⟨j, hj, rfl, oi, Bi⟩ := hrel
        have isb := flp_isb iy k t.toNat j
        by_cases hlt : j < 32
        · have hjd : decide ((j : Int) < 32) = true := decide_eq_true (by omega)
          have hpl : (k : Int) + j < 8 * (xs.length : Int) := by omega
          have hlf : (flp ys k t.toNat j).length = xs.length := by rw [flp_len, HL.out]
          have HF := Lib.hid (show flp ys k t.toNat (j + 1) = if t.toNat / 2 ^ j % 2 = 1 then (flp ys k t.toNat j).set ((k + j) / 8) ((((flp ys k t.toNat j).getD ((k + j) / 8) 0).toNat ^^^ 2 ^ ((k + j) % 8) : Nat) : Int) else flp ys k t.toNat j by rw [flp])
          generalize flp ys k t.toNat j = fs at oi isb hlf HF
          have hp8 : (k + j) / 8 < xs.length := by omega
          obtain ⟨ad, rfl, hcx, hfx, hbx, hst⟩ := own_upd oi ((k + j) / 8) hp8
          have hx := isb_getD isb ((k + j) / 8)
          generalize fs.getD ((k + j) / 8) 0 = x at hcx hx HF
          have hB := t_bit t j ht.1 ht.2
          have htj := Nat.mod_lt (t.toNat / 2 ^ j) (show 0 < 2 by decide)
          have HK1 := Lib.hid (show (j + 1 : Nat) ≤ 32 by omega)
          have hkc : (k : Int) < 16000 := by omega
          clear hj hk d1 ht
          rcases (show t.toNat / 2 ^ j % 2 = 0 ∨ t.toNat / 2 ^ j % 2 = 1 by omega) with hz | hz
          · rw [hz] at hB HF
            have HF2 := Lib.hid (show flp ys k t.toNat (j + 1) = fs by rw [HF.out]; simp)
            clear hz HF htj
            go_wp2
            go_roundw
            case rel => exact ⟨j + 1, HK1.out, by go_num, by rw [HF2.out]; exact oi, Bi⟩
            case measure => simp [intOf]; omega
          · rw [hz] at hB HF
            have HF2 := Lib.hid (show flp ys k t.toNat (j + 1) = fs.set ((k + j) / 8) ((x.toNat ^^^ 2 ^ ((k + j) % 8) : Nat) : Int) by rw [HF.out]; simp)
            clear hz HF htj
            have hX := x_bit x (k + j) hx.1 hx.2
            have HST := Lib.hid (hst ((x.toNat ^^^ 2 ^ ((k + j) % 8) : Nat) : Int))
            clear hst hlf
            go_wp2
            go_roundw
            case rel => exact ⟨j + 1, HK1.out, by go_num, by rw [HF2.out]; exact HST.out, Bi.setCell (Nat.le_trans HWB.out hbx) _⟩
            case measure => simp [intOf]; omega
        · obtain rfl : j = 32 := by omega
          have HTL := Lib.hid (flp_tells (t := t.toNat) iy (by rw [HL.out]; exact hq) (by rw [HL.out]; exact hk) (by omega) (by have := HT.out; omega) HS.out hout.out)
          have hlf : (flp ys k t.toNat 32).length = xs.length := by rw [flp_len, HL.out]
          clear d1 ht
          generalize flp ys k t.toNat 32 = zs at *
          have C1 := sealed_calls _ _ Bs cs zs q wr (by rw [hlf]; exact SlB.of_own oi) (by omega) hcs isb (by omega)
          rw [hlf, show decide (sealW zs q = zs) = false by simp [HTL.out]] at C1
          have HC1 := Lib.hid C1
          clear C1
          go_wp2_with fail
          refine HC1.out.mono ?_
          rintro e w5 ⟨rfl, B5⟩
          go_wp2
          go_ret
          exact ⟨rfl, Bl.trans Bi (Bl.low B5 Bi.size)⟩
  · have d1 := dB hX hY h1
    have hout := Lib.hid (dO2 h1)
    clear h1 hX hY hZ
    clear hq hk
    have hk31 := HK31.out
    have hq8 := HQ8.out
    have hq32 := HQ32.out
    go_wp2_with fail
    clear hk31 hq8 hq32
    have hq := HQH.out
    have hk := HKH.out
    go_loopw [12] (fun i wi => ∃ j : Nat, j ≤ 32 ∧ i = .int .i64 j ∧ OwnB wi w'.heap.size 5 (.slice Bs xs.length cs) (flp ys k t.toNat j) ∧ Below w.heap.size w wi) (fun i _ => 32 - (intOf i).toNat)
    case atStart => exact ⟨0, Nat.zero_le _, rfl, os, B2⟩
    case round =>
      clear os B2
      obtain ⟨j, hj, rfl, oi, Bi⟩ := hrel
      have isb := flp_isb iy k t.toNat j
      by_cases hlt : j < 32
      · have hjd : decide ((j : Int) < 32) = true := decide_eq_true (by omega)
        have hpl : (k : Int) + j < 8 * (xs.length : Int) := by omega
        have hlf : (flp ys k t.toNat j).length = xs.length := by rw [flp_len, HL.out]
        have HF := Lib.hid (show flp ys k t.toNat (j + 1) = if t.toNat / 2 ^ j % 2 = 1 then (flp ys k t.toNat j).set ((k + j) / 8) ((((flp ys k t.toNat j).getD ((k + j) / 8) 0).toNat ^^^ 2 ^ ((k + j) % 8) : Nat) : Int) else flp ys k t.toNat j by rw [flp])
        generalize flp ys k t.toNat j = fs at oi isb hlf HF
        have hp8 : (k + j) / 8 < xs.length := by omega
        obtain ⟨ad, rfl, hcx, hfx, hbx, hst⟩ := own_upd oi ((k + j) / 8) hp8
        have hx := isb_getD isb ((k + j) / 8)
        generalize fs.getD ((k + j) / 8) 0 = x at hcx hx HF
        have hB := t_bit t j ht.1 ht.2
        have htj := Nat.mod_lt (t.toNat / 2 ^ j) (show 0 < 2 by decide)
        have HK1 := Lib.hid (show (j + 1 : Nat) ≤ 32 by omega)
        have hkc : (k : Int) < 16000 := by omega
        clear hj hk d1 ht
        rcases (show t.toNat / 2 ^ j % 2 = 0 ∨ t.toNat / 2 ^ j % 2 = 1 by omega) with hz | hz
        · rw [hz] at hB HF
          have HF2 := Lib.hid (show flp ys k t.toNat (j + 1) = fs by rw [HF.out]; simp)
          clear hz HF htj
          go_wp2
          go_roundw
          case rel => exact ⟨j + 1, HK1.out, by go_num, by rw [HF2.out]; exact oi, Bi⟩
          case measure => simp [intOf]; omega
        · rw [hz] at hB HF
          have HF2 := Lib.hid (show flp ys k t.toNat (j + 1) = fs.set ((k + j) / 8) ((x.toNat ^^^ 2 ^ ((k + j) % 8) : Nat) : Int) by rw [HF.out]; simp)
          clear hz HF htj
          have hX := x_bit x (k + j) hx.1 hx.2
          have HST := Lib.hid (hst ((x.toNat ^^^ 2 ^ ((k + j) % 8) : Nat) : Int))
          clear hst hlf
          go_wp2
          go_roundw
          case rel => exact ⟨j + 1, HK1.out, by go_num, by rw [HF2.out]; exact HST.out, Bi.setCell (Nat.le_trans HWB.out hbx) _⟩
          case measure => simp [intOf]; omega
      · obtain rfl : j = 32 := by omega
        have HTL := Lib.hid (flp_tells (t := t.toNat) iy (by rw [HL.out]; exact hq) (by rw [HL.out]; exact hk) (by omega) (by have := HT.out; omega) HS.out hout.out)
        have hlf : (flp ys k t.toNat 32).length = xs.length := by rw [flp_len, HL.out]
        clear d1 ht
        generalize flp ys k t.toNat 32 = zs at *
        have C1 := sealed_calls _ _ Bs cs zs q wr (by rw [hlf]; exact SlB.of_own oi) (by omega) hcs isb (by omega)
        rw [hlf, show decide (sealW zs q = zs) = false by simp [HTL.out]] at C1
        have HC1 := Lib.hid C1
        clear C1
        go_wp2_with fail
        refine HC1.out.mono ?_
        rintro e w5 ⟨rfl, B5⟩
        go_wp2
        go_ret
        exact ⟨rfl, Bl.trans Bi (Bl.low B5 Bi.size)⟩
end Go.Proofs.Ytdapcjeofgimgaa.CrcTells
