/- Contract of dcep.PutOffer. Conditions: utf8's tables read as laid. -/
import Derived.Test.YtdbndinnakkloaaDoorDcpBase
namespace Go.Proofs.YtdbndinnakkloaaDoor.Dcp
open Go.RowKit Go.Proofs.YtdbndinnakkloaaDoor.Mem Go.Proofs.YtdbndinnakkloaaDoor.Octet
set_option linter.unusedVariables false
set_option linter.unusedSimpArgs false
/-- The error of an offer. -/
def putE (k n : Int) (l p : ByteArray) : Int := if rightB k n = true then textE l p else 60
/-- An offer's bytes. -/
def obytes (ls : Bool) (k n pri : Int) (l p : ByteArray) : List Int :=
  [3] ++ [if ls then k + 128 else k] ++ [pri / 256 % 256, pri % 256] ++ [n / 16777216 % 256, n / 65536 % 256, n / 256 % 256, n % 256] ++ [(l.size : Int) / 256 % 256, (l.size : Int) % 256] ++ [(p.size : Int) / 256 % 256, (p.size : Int) % 256] ++ sb l ++ sb p
theorem obytes_len (ls : Bool) (k n pri : Int) (l p : ByteArray) : (obytes ls k n pri l p).length = 12 + l.size + p.size := by
  simp [obytes, sb_len]
  omega
theorem right_k {k n : Int} (h : rightB k n = true) : k = 0 ∨ k = 1 ∨ k = 2 := by
  unfold rightB at h
  simp only [Bool.or_eq_true, Bool.and_eq_true, beq_iff_eq] at h
  omega
theorem textE_ok {l p : ByteArray} (h : textE l p = 0) : l.size ≤ 255 ∧ p.size ≤ 255 ∧ vd l = true ∧ vd p = true := by
  unfold textE at h
  split at h
  · cases h
  · split at h
    · rename_i h1 h2
      rw [Bool.and_eq_true] at h2
      exact ⟨by omega, by omega, h2⟩
    · cases h
set_option maxHeartbeats 4000000 in
set_option maxRecDepth 100000 in
theorem put_calls (ls : Bool) (k n pri : Int) (l p : ByteArray) (w : World) (hT : Tabs w) (hl : l.size ≤ 9223372036854775807) (hp : p.size ≤ 9223372036854775807) :
    Calls Tryd.prog 11 #[.agg #[.bool ls, .int .i64 k, .int .u32 n, .int .u16 pri, .string l, .string p]] w fun e w' => Below w.heap.size w w' ∧ ((putE k n l p ≠ 0 ∧ e = .returned (.tuple #[.slice none 0 0, .int .i64 (putE k n l p)])) ∨
    (putE k n l p = 0 ∧ ∃ A c, e = .returned (.tuple #[.slice A (obytes ls k n pri l p).length c, .int .i64 0]) ∧ OwnB w' w.heap.size 5 (.slice A (obytes ls k n pri l p).length c) (obytes ls k n pri l p))) := by
  have B1 : Below w.heap.size w (w.alloc (.cells #[.bool ls, .int .i64 k, .int .u32 n, .int .u16 pri, .string l, .string p] 30)) := (Below.refl _ w).alloc (Nat.le_refl _) _
  have bO := Blk.new w #[.bool ls, .int .i64 k, .int .u32 n, .int .u16 pri, .string l, .string p] 30
  have T1 := hT.below B1
  have hup := Tryd.underlying30
  have hupL := Tryd.underlying27
  have c0 := bO.cell 0
  have c1 := bO.cell 1
  have c2 := bO.cell 2
  have c3 := bO.cell 3
  have c4 := bO.cell 4
  have c5 := bO.cell 5
  simp at c0 c1 c2 c3 c4 c5
  rcases hr : rightB k n with _ | _
  · have he : putE k n l p = 60 := by unfold putE; rw [hr]; rfl
    have HE := Lib.hid he
    have CR := Lib.hid (right_calls k n (w.alloc (.cells #[.bool ls, .int .i64 k, .int .u32 n, .int .u16 pri, .string l, .string p] 30)))
    clear he
    go_enter Tryd.func11, Tryd.ntmps11
    go_wp2_with fail
    refine CR.out.mono ?_
    rintro e w1 ⟨rfl, B2⟩
    rw [hr]
    go_wp2
    go_ret2
    exact ⟨Bl.trans B1 (Bl.low B2 B1.size), .inl ⟨by rw [HE.out]; decide, by rw [HE.out]; rfl⟩⟩
  · have he : putE k n l p = textE l p := by unfold putE; rw [hr]; rfl
    have HE := Lib.hid he
    have CR := right_calls k n (w.alloc (.cells #[.bool ls, .int .i64 k, .int .u32 n, .int .u16 pri, .string l, .string p] 30))
    rw [hr] at CR
    have HCR := Lib.hid CR
    have HR := Lib.hid hr
    clear he hr CR
    go_enter Tryd.func11, Tryd.ntmps11
    go_wp2_with fail
    refine HCR.out.mono ?_
    rintro e w1 ⟨rfl, B2⟩
    have bO1 := Blk.fr bO (Fr.of_below (S := nothing) B2) id
    have T2 := T1.below B2
    have B3 := Bl.trans B1 (Bl.low B2 B1.size)
    clear HCR c0 c1 c2 c3 c4 c5 bO T1 B1 B2
    have c0 := bO1.cell 0
    have c1 := bO1.cell 1
    have c2 := bO1.cell 2
    have c3 := bO1.cell 3
    have c4 := bO1.cell 4
    have c5 := bO1.cell 5
    simp at c0 c1 c2 c3 c4 c5
    have CT := Lib.hid (texts_calls ls k n pri l p w1 T2 hl hp)
    go_wp2_with fail
    refine CT.out.mono ?_
    rintro e w2 ⟨rfl, B4⟩
    have bO2 := Blk.fr bO1 (Fr.of_below (S := nothing) B4) id
    have B5 := Bl.trans B3 (Bl.low B4 B3.size)
    clear CT c0 c1 c2 c3 c4 c5 bO1 T2 B3 B4
    have c0 := bO2.cell 0
    have c1 := bO2.cell 1
    have c2 := bO2.cell 2
    have c3 := bO2.cell 3
    have c4 := bO2.cell 4
    have c5 := bO2.cell 5
    simp at c0 c1 c2 c3 c4 c5
    by_cases ht : textE l p = 0
    · obtain ⟨hl2, hp2, hv1, hv2⟩ := textE_ok ht
      have HT := Lib.hid ht
      have hk := right_k HR.out
      have hw8 : IntKind.u8.wrap k = k := by rcases hk with rfl | rfl | rfl <;> rfl
      have ho8 : bits .or .u8 k 128 = k + 128 := by rcases hk with rfl | rfl | rfl <;> decide
      have hwl : IntKind.u16.wrap (l.size : Int) = l.size := by simp [IntKind.wrap, IntKind.bits, IntKind.signed]; omega
      have hwp : IntKind.u16.wrap (p.size : Int) = p.size := by simp [IntKind.wrap, IntKind.bits, IntKind.signed]; omega
      have HL2 := Lib.hid hl2
      have HP2 := Lib.hid hp2
      have hwb : w.heap.size < w2.heap.size := bO2.lt
      clear hl2 hp2 hk hv1 hv2 hl hp
      rw [ht]
      clear ht
      cases ls with
      | true =>
        go_upto_region 10 with fail
        have hW0 := WtrN.new w2
        have bO3 := bO2.alloc (.cells #[.slice none 0 0] 70)
        have F0 : Below w2.heap.size w2 (w2.alloc (.cells #[.slice none 0 0] 70)) := (Below.refl _ _).alloc (Nat.le_refl _) _
        generalize w2.alloc (.cells #[.slice none 0 0] 70) = v0 at *
        clear c0 c1 c2 c3 c4 c5 bO2
        have c0 := bO3.cell 0
        have c1 := bO3.cell 1
        have c2 := bO3.cell 2
        have c3 := bO3.cell 3
        have c4 := bO3.cell 4
        have c5 := bO3.cell 5
        simp at c0 c1 c2 c3 c4 c5
        have P0 := Lib.hid (u8n_calls _ _ _ (3) v0 hW0 (by simp))
        go_wp2_with fail
        refine P0.out.mono ?_
        rintro e v1 ⟨rfl, hW1, D0⟩
        have b0 := Blk.fr bO3 (Bl.fr D0) (by omega)
        have F1 := Bl.trans F0 D0
        clear P0 c0 c1 c2 c3 c4 c5 D0 bO3 hW0 F0
        have c0 := b0.cell 0
        have c1 := b0.cell 1
        have c2 := b0.cell 2
        have c3 := b0.cell 3
        have c4 := b0.cell 4
        have c5 := b0.cell 5
        simp at c0 c1 c2 c3 c4 c5
        have P1 := Lib.hid (u8n_calls _ _ _ ((k + 128)) v1 hW1 (by simp))
        go_wp2_with fail
        refine P1.out.mono ?_
        rintro e v2 ⟨rfl, hW2, D1⟩
        have b1 := Blk.fr b0 (Bl.fr D1) (by omega)
        have F2 := Bl.trans F1 D1
        clear P1 c0 c1 c2 c3 c4 c5 D1 b0 hW1 F1
        have c0 := b1.cell 0
        have c1 := b1.cell 1
        have c2 := b1.cell 2
        have c3 := b1.cell 3
        have c4 := b1.cell 4
        have c5 := b1.cell 5
        simp at c0 c1 c2 c3 c4 c5
        have P2 := Lib.hid (u16n_calls _ _ _ pri v2 hW2 (by simp))
        go_wp2_with fail
        refine P2.out.mono ?_
        rintro e v3 ⟨rfl, hW3, D2⟩
        have b2 := Blk.fr b1 (Bl.fr D2) (by omega)
        have F3 := Bl.trans F2 D2
        clear P2 c0 c1 c2 c3 c4 c5 D2 b1 hW2 F2
        have c0 := b2.cell 0
        have c1 := b2.cell 1
        have c2 := b2.cell 2
        have c3 := b2.cell 3
        have c4 := b2.cell 4
        have c5 := b2.cell 5
        simp at c0 c1 c2 c3 c4 c5
        have P3 := Lib.hid (u32n_calls _ _ _ n v3 hW3 (by simp))
        go_wp2_with fail
        refine P3.out.mono ?_
        rintro e v4 ⟨rfl, hW4, D3⟩
        have b3 := Blk.fr b2 (Bl.fr D3) (by omega)
        have F4 := Bl.trans F3 D3
        clear P3 c0 c1 c2 c3 c4 c5 D3 b2 hW3 F3
        have c0 := b3.cell 0
        have c1 := b3.cell 1
        have c2 := b3.cell 2
        have c3 := b3.cell 3
        have c4 := b3.cell 4
        have c5 := b3.cell 5
        simp at c0 c1 c2 c3 c4 c5
        have P4 := Lib.hid (u16n_calls _ _ _ (l.size : Int) v4 hW4 (by simp))
        go_wp2_with fail
        refine P4.out.mono ?_
        rintro e v5 ⟨rfl, hW5, D4⟩
        have b4 := Blk.fr b3 (Bl.fr D4) (by omega)
        have F5 := Bl.trans F4 D4
        clear P4 c0 c1 c2 c3 c4 c5 D4 b3 hW4 F4
        have c0 := b4.cell 0
        have c1 := b4.cell 1
        have c2 := b4.cell 2
        have c3 := b4.cell 3
        have c4 := b4.cell 4
        have c5 := b4.cell 5
        simp at c0 c1 c2 c3 c4 c5
        have P5 := Lib.hid (u16n_calls _ _ _ (p.size : Int) v5 hW5 (by simp))
        go_wp2_with fail
        refine P5.out.mono ?_
        rintro e v6 ⟨rfl, hW6, D5⟩
        have b5 := Blk.fr b4 (Bl.fr D5) (by omega)
        have F6 := Bl.trans F5 D5
        clear P5 c0 c1 c2 c3 c4 c5 D5 b4 hW5 F5
        have c0 := b5.cell 0
        have c1 := b5.cell 1
        have c2 := b5.cell 2
        have c3 := b5.cell 3
        have c4 := b5.cell 4
        have c5 := b5.cell 5
        simp at c0 c1 c2 c3 c4 c5
        obtain ⟨A6, q6, x6, cv, S6, G6⟩ := conv_bytes l v6 (by have := HL2.out; omega)
        have hW6c := WtrN.fr hW6 (Fr.of_below (S := nothing) G6) (fun _ _ h => h)
        have b5c := Blk.fr b5 (Fr.of_below (S := nothing) G6) id
        have F6c := Bl.trans F6 (Bl.low G6 F6.size)
        have hd6 := F6c.size
        have P6 := Lib.hid (putn_calls _ _ _ _ _ _ (sb l) x6 hW6c S6 (by have := HL2.out; have := HL2.out; have := HP2.out; simp [sb_len]; omega))
        clear G6 F6 hW6 b5 S6
        go_wp2_with fail
        refine P6.out.mono ?_
        rintro e v7 ⟨rfl, hW7, D6⟩
        have b6 := Blk.fr b5c (Bl.fr D6) (by omega)
        have F7 := Bl.trans F6c D6
        clear P6 c0 c1 c2 c3 c4 c5 D6 b5c hW6c F6c cv
        have c0 := b6.cell 0
        have c1 := b6.cell 1
        have c2 := b6.cell 2
        have c3 := b6.cell 3
        have c4 := b6.cell 4
        have c5 := b6.cell 5
        simp at c0 c1 c2 c3 c4 c5
        obtain ⟨A7, q7, x7, cv, S7, G7⟩ := conv_bytes p v7 (by have := HP2.out; omega)
        have hW7c := WtrN.fr hW7 (Fr.of_below (S := nothing) G7) (fun _ _ h => h)
        have b6c := Blk.fr b6 (Fr.of_below (S := nothing) G7) id
        have F7c := Bl.trans F7 (Bl.low G7 F7.size)
        have hd7 := F7c.size
        have P7 := Lib.hid (putn_calls _ _ _ _ _ _ (sb p) x7 hW7c S7 (by have := HP2.out; have := HL2.out; have := HP2.out; simp [sb_len]; omega))
        clear G7 F7 hW7 b6 S7
        go_wp2_with fail
        refine P7.out.mono ?_
        rintro e v8 ⟨rfl, hW8, D7⟩
        have b7 := Blk.fr b6c (Bl.fr D7) (by omega)
        have F8 := Bl.trans F7c D7
        clear P7 c0 c1 c2 c3 c4 c5 D7 b6c hW7c F7c cv
        have c0 := b7.cell 0
        have c1 := b7.cell 1
        have c2 := b7.cell 2
        have c3 := b7.cell 3
        have c4 := b7.cell 4
        have c5 := b7.cell 5
        simp at c0 c1 c2 c3 c4 c5
        have PO := Lib.hid (outn_calls _ _ _ v8 hW8 (by have := HL2.out; have := HP2.out; simp [sb_len]; omega))
        have hzz := F8.size
        go_wp2_with fail
        refine PO.out.mono ?_
        rintro e vo ⟨Ao, no, co, rfl, hno, -, oo, -, Bo⟩
        have HNO := Lib.hid hno
        clear PO c0 c1 c2 c3 c4 c5 hno
        go_wp2
        go_ret2
        have hno := HNO.out
        have hbs : [] ++ [3] ++ [(k + 128)] ++ [pri / 256 % 256, pri % 256] ++ [n / 16777216 % 256, n / 65536 % 256, n / 256 % 256, n % 256] ++ [(l.size : Int) / 256 % 256, (l.size : Int) % 256] ++ [(p.size : Int) / 256 % 256, (p.size : Int) % 256] ++ sb l ++ sb p = obytes true k n pri l p := by simp [obytes]
        rw [hbs] at hno oo
        subst hno
        exact ⟨Bl.trans B5 (Bl.low (Bl.trans F8 (Bl.low Bo hzz)) B5.size), .inr ⟨HE.out.trans HT.out, _, _, rfl, OwnB.low oo (by omega)⟩⟩
      | false =>
        go_upto_region 10 with fail
        have hW0 := WtrN.new w2
        have bO3 := bO2.alloc (.cells #[.slice none 0 0] 70)
        have F0 : Below w2.heap.size w2 (w2.alloc (.cells #[.slice none 0 0] 70)) := (Below.refl _ _).alloc (Nat.le_refl _) _
        generalize w2.alloc (.cells #[.slice none 0 0] 70) = v0 at *
        clear c0 c1 c2 c3 c4 c5 bO2
        have c0 := bO3.cell 0
        have c1 := bO3.cell 1
        have c2 := bO3.cell 2
        have c3 := bO3.cell 3
        have c4 := bO3.cell 4
        have c5 := bO3.cell 5
        simp at c0 c1 c2 c3 c4 c5
        have P0 := Lib.hid (u8n_calls _ _ _ (3) v0 hW0 (by simp))
        go_wp2_with fail
        refine P0.out.mono ?_
        rintro e v1 ⟨rfl, hW1, D0⟩
        have b0 := Blk.fr bO3 (Bl.fr D0) (by omega)
        have F1 := Bl.trans F0 D0
        clear P0 c0 c1 c2 c3 c4 c5 D0 bO3 hW0 F0
        have c0 := b0.cell 0
        have c1 := b0.cell 1
        have c2 := b0.cell 2
        have c3 := b0.cell 3
        have c4 := b0.cell 4
        have c5 := b0.cell 5
        simp at c0 c1 c2 c3 c4 c5
        have P1 := Lib.hid (u8n_calls _ _ _ (k) v1 hW1 (by simp))
        go_wp2_with fail
        refine P1.out.mono ?_
        rintro e v2 ⟨rfl, hW2, D1⟩
        have b1 := Blk.fr b0 (Bl.fr D1) (by omega)
        have F2 := Bl.trans F1 D1
        clear P1 c0 c1 c2 c3 c4 c5 D1 b0 hW1 F1
        have c0 := b1.cell 0
        have c1 := b1.cell 1
        have c2 := b1.cell 2
        have c3 := b1.cell 3
        have c4 := b1.cell 4
        have c5 := b1.cell 5
        simp at c0 c1 c2 c3 c4 c5
        have P2 := Lib.hid (u16n_calls _ _ _ pri v2 hW2 (by simp))
        go_wp2_with fail
        refine P2.out.mono ?_
        rintro e v3 ⟨rfl, hW3, D2⟩
        have b2 := Blk.fr b1 (Bl.fr D2) (by omega)
        have F3 := Bl.trans F2 D2
        clear P2 c0 c1 c2 c3 c4 c5 D2 b1 hW2 F2
        have c0 := b2.cell 0
        have c1 := b2.cell 1
        have c2 := b2.cell 2
        have c3 := b2.cell 3
        have c4 := b2.cell 4
        have c5 := b2.cell 5
        simp at c0 c1 c2 c3 c4 c5
        have P3 := Lib.hid (u32n_calls _ _ _ n v3 hW3 (by simp))
        go_wp2_with fail
        refine P3.out.mono ?_
        rintro e v4 ⟨rfl, hW4, D3⟩
        have b3 := Blk.fr b2 (Bl.fr D3) (by omega)
        have F4 := Bl.trans F3 D3
        clear P3 c0 c1 c2 c3 c4 c5 D3 b2 hW3 F3
        have c0 := b3.cell 0
        have c1 := b3.cell 1
        have c2 := b3.cell 2
        have c3 := b3.cell 3
        have c4 := b3.cell 4
        have c5 := b3.cell 5
        simp at c0 c1 c2 c3 c4 c5
        have P4 := Lib.hid (u16n_calls _ _ _ (l.size : Int) v4 hW4 (by simp))
        go_wp2_with fail
        refine P4.out.mono ?_
        rintro e v5 ⟨rfl, hW5, D4⟩
        have b4 := Blk.fr b3 (Bl.fr D4) (by omega)
        have F5 := Bl.trans F4 D4
        clear P4 c0 c1 c2 c3 c4 c5 D4 b3 hW4 F4
        have c0 := b4.cell 0
        have c1 := b4.cell 1
        have c2 := b4.cell 2
        have c3 := b4.cell 3
        have c4 := b4.cell 4
        have c5 := b4.cell 5
        simp at c0 c1 c2 c3 c4 c5
        have P5 := Lib.hid (u16n_calls _ _ _ (p.size : Int) v5 hW5 (by simp))
        go_wp2_with fail
        refine P5.out.mono ?_
        rintro e v6 ⟨rfl, hW6, D5⟩
        have b5 := Blk.fr b4 (Bl.fr D5) (by omega)
        have F6 := Bl.trans F5 D5
        clear P5 c0 c1 c2 c3 c4 c5 D5 b4 hW5 F5
        have c0 := b5.cell 0
        have c1 := b5.cell 1
        have c2 := b5.cell 2
        have c3 := b5.cell 3
        have c4 := b5.cell 4
        have c5 := b5.cell 5
        simp at c0 c1 c2 c3 c4 c5
        obtain ⟨A6, q6, x6, cv, S6, G6⟩ := conv_bytes l v6 (by have := HL2.out; omega)
        have hW6c := WtrN.fr hW6 (Fr.of_below (S := nothing) G6) (fun _ _ h => h)
        have b5c := Blk.fr b5 (Fr.of_below (S := nothing) G6) id
        have F6c := Bl.trans F6 (Bl.low G6 F6.size)
        have hd6 := F6c.size
        have P6 := Lib.hid (putn_calls _ _ _ _ _ _ (sb l) x6 hW6c S6 (by have := HL2.out; have := HL2.out; have := HP2.out; simp [sb_len]; omega))
        clear G6 F6 hW6 b5 S6
        go_wp2_with fail
        refine P6.out.mono ?_
        rintro e v7 ⟨rfl, hW7, D6⟩
        have b6 := Blk.fr b5c (Bl.fr D6) (by omega)
        have F7 := Bl.trans F6c D6
        clear P6 c0 c1 c2 c3 c4 c5 D6 b5c hW6c F6c cv
        have c0 := b6.cell 0
        have c1 := b6.cell 1
        have c2 := b6.cell 2
        have c3 := b6.cell 3
        have c4 := b6.cell 4
        have c5 := b6.cell 5
        simp at c0 c1 c2 c3 c4 c5
        obtain ⟨A7, q7, x7, cv, S7, G7⟩ := conv_bytes p v7 (by have := HP2.out; omega)
        have hW7c := WtrN.fr hW7 (Fr.of_below (S := nothing) G7) (fun _ _ h => h)
        have b6c := Blk.fr b6 (Fr.of_below (S := nothing) G7) id
        have F7c := Bl.trans F7 (Bl.low G7 F7.size)
        have hd7 := F7c.size
        have P7 := Lib.hid (putn_calls _ _ _ _ _ _ (sb p) x7 hW7c S7 (by have := HP2.out; have := HL2.out; have := HP2.out; simp [sb_len]; omega))
        clear G7 F7 hW7 b6 S7
        go_wp2_with fail
        refine P7.out.mono ?_
        rintro e v8 ⟨rfl, hW8, D7⟩
        have b7 := Blk.fr b6c (Bl.fr D7) (by omega)
        have F8 := Bl.trans F7c D7
        clear P7 c0 c1 c2 c3 c4 c5 D7 b6c hW7c F7c cv
        have c0 := b7.cell 0
        have c1 := b7.cell 1
        have c2 := b7.cell 2
        have c3 := b7.cell 3
        have c4 := b7.cell 4
        have c5 := b7.cell 5
        simp at c0 c1 c2 c3 c4 c5
        have PO := Lib.hid (outn_calls _ _ _ v8 hW8 (by have := HL2.out; have := HP2.out; simp [sb_len]; omega))
        have hzz := F8.size
        go_wp2_with fail
        refine PO.out.mono ?_
        rintro e vo ⟨Ao, no, co, rfl, hno, -, oo, -, Bo⟩
        have HNO := Lib.hid hno
        clear PO c0 c1 c2 c3 c4 c5 hno
        go_wp2
        go_ret2
        have hno := HNO.out
        have hbs : [] ++ [3] ++ [k] ++ [pri / 256 % 256, pri % 256] ++ [n / 16777216 % 256, n / 65536 % 256, n / 256 % 256, n % 256] ++ [(l.size : Int) / 256 % 256, (l.size : Int) % 256] ++ [(p.size : Int) / 256 % 256, (p.size : Int) % 256] ++ sb l ++ sb p = obytes false k n pri l p := by simp [obytes]
        rw [hbs] at hno oo
        subst hno
        exact ⟨Bl.trans B5 (Bl.low (Bl.trans F8 (Bl.low Bo hzz)) B5.size), .inr ⟨HE.out.trans HT.out, _, _, rfl, OwnB.low oo (by omega)⟩⟩
    · have HT := Lib.hid ht
      have hne : (textE l p != 0) = true := by simpa using ht
      clear ht
      generalize textE l p = E at *
      go_wp2
      go_ret2
      exact ⟨B5, .inl ⟨by rw [HE.out]; exact HT.out, by rw [HE.out]; rfl⟩⟩
end Go.Proofs.YtdbndinnakkloaaDoor.Dcp
