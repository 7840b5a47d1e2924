/- Contract of frag.Cut, whole; what must be answered first. Conditions: each names its blocks and the bounds. -/
import Derived.Test.YtnhkmapeleomkaaFragCutOk
import Derived.Lib.SlBytesConst
namespace Go.Proofs.Ytnhkmapeleomkaa.Frag
open Go.RowKit Go.Proofs.Ytnhkmapeleomkaa.Mem Go.Proofs.Ytnhkmapeleomkaa.Octet
set_option linter.unusedVariables false
set_option linter.unusedSimpArgs false
theorem cutE_ok {most : Int} {inter : Bool} {n : Nat} (h : cutE most inter n = 0) : 1 ≤ most ∧ most ≤ room inter ∧ 0 < n ∧ n ≤ 65536 := by
  unfold cutE at h
  split at h
  · cases h
  · split at h
    · cases h
    · split at h
      · cases h
      · omega
/-- What frag.Cut hands back. -/
def CutR (w : World) (st : Int) (ls : Bool) (mid pp : Int) (bs : List Int) (most : Int) (inter : Bool) (e : Ending) (w' : World) : Prop :=
  Below w.heap.size w w' ∧ ((cutE most inter bs.length = 0 ∧ ∃ B c', e = .returned (.tuple #[.slice B (npc most.toNat bs) c', .int .i64 0]) ∧ OwnCk w' w.heap.size (.slice B (npc most.toNat bs) c') (pieces st ls mid pp inter bs most.toNat)) ∨
    (cutE most inter bs.length ≠ 0 ∧ e = .returned (.tuple #[.slice none 0 0, .int .i64 (cutE most inter bs.length)])))
theorem cut_calls (lo hi : Nat) (st mid pp : Int) (ls : Bool) (A : Option Addr) (c : Nat) (bs : List Int) (most : Int) (inter : Bool) (w : World) (h : SlB w lo hi (.slice A bs.length c) bs) (hhi : hi ≤ w.heap.size) (hmid : 0 ≤ mid ∧ mid < 4294967296) :
    Calls Try.prog 8 #[msg st ls mid pp A bs.length c, .int .i64 most, .bool inter] w (CutR w st ls mid pp bs most inter) := by
  by_cases he : cutE most inter bs.length = 0
  · obtain ⟨h1, h2, h3, h4⟩ := cutE_ok he
    have hX := h
    obtain ⟨A', c', e, g1, g2, g3, g4⟩ := h
    injection e with e1 _ e3
    subst e1; subst e3
    obtain ⟨ad, rfl, -⟩ := g4.at_ 0 h3
    obtain ⟨m, rfl⟩ : ∃ m : Nat, most = m := ⟨most.toNat, by omega⟩
    refine (cut_ok lo hi st mid pp ls ad c bs m inter w hX hhi (by omega) h2 h3 h4 hmid ⟨g1, g2⟩).mono ?_
    rintro e w' ⟨B, c', he', ho, hb⟩
    exact ⟨hb, .inl ⟨he, B, c', by simpa using he', by simpa using ho⟩⟩
  · refine (cut_bad lo hi st mid pp ls A c bs most inter w he).mono ?_
    rintro e w' ⟨he', hb⟩
    exact ⟨hb, .inr ⟨he, he'⟩⟩
set_option maxHeartbeats 4000000 in
set_option maxRecDepth 100000 in
theorem first_calls (w : World) : Calls Try.prog 7 #[] w fun e w' => e = .returned (.bool true) ∧ Below w.heap.size w w' := by
  have kc := Lib.run_convert_bytes_const (P := Try.prog) w 24 5 #[.int .u8 97, .int .u8 98, .int .u8 99, .int .u8 100, .int .u8 101] 5 5 Try.underlying24 Try.underlying5
  have B0 : Below w.heap.size w (w.alloc (.cells #[.int .u8 97, .int .u8 98, .int .u8 99, .int .u8 100, .int .u8 101] 5 (5, 6))) := (Below.refl _ w).alloc (Nat.le_refl _) _
  have X : SlB (w.alloc (.cells #[.int .u8 97, .int .u8 98, .int .u8 99, .int .u8 100, .int .u8 101] 5 (5, 6))) 0 (w.heap.size + 1) (.slice (some ⟨w.heap.size, 0, none⟩) ([97, 98, 99, 100, 101] : List Int).length 5) [97, 98, 99, 100, 101] := by
    obtain ⟨A', c', e, g1, g2, g3, g4⟩ := lit_slb w #[.int .u8 97, .int .u8 98, .int .u8 99, .int .u8 100, .int .u8 101] (5, 6) [97, 98, 99, 100, 101] (by simp) (by decide) (by intro i hi; match i, hi with | 0, _ => rfl | 1, _ => rfl | 2, _ => rfl | 3, _ => rfl | 4, _ => rfl)
    exact ⟨A', c', e, g1, g2, g3, g4.more (Nat.zero_le _) (by omega)⟩
  have C1 := cut_calls _ _ 3 9 0 false _ _ [97, 98, 99, 100, 101] 2 true _ X (by simp) (by decide)
  have hE : cutE 2 true ([97, 98, 99, 100, 101] : List Int).length = 0 := by decide
  have HC1 := Lib.hid C1
  have HB0 := Lib.hid B0
  clear C1 X B0
  go_enter Try.func7, Try.ntmps7
  go_wp2_with fail
  refine HC1.out.mono ?_
  rintro e w1 ⟨B1, hh⟩
  obtain ⟨B, c', rfl, O⟩ := (hh.resolve_right (fun h => h.1 hE)).2
  clear hh
  have hs1 := B1.size
  have hs0 := HB0.out.size
  have C2 := cut_bad 0 0 0 0 0 false none 0 [] 2 true w1 (by decide)
  rw [show cutE 2 true ([] : List Int).length = 42 by decide] at C2
  have HC2 := Lib.hid C2
  have HB1 := Lib.hid (Bl.trans HB0.out (Bl.low B1 hs0))
  have HO := Lib.hid O
  clear C2 B1 O
  go_wp2_with fail
  refine HC2.out.mono ?_
  rintro e w2 ⟨rfl, B2⟩
  have O2 := OwnCk.fr (S := nothing) HO.out (Fr.of_below B2) (fun _ _ h => h)
  have hlen : (pieces 3 false 9 0 true [97, 98, 99, 100, 101] 2).length = 3 := rfl
  obtain ⟨g, s0, rfl, -, -, -, hc0, -, -⟩ := O2.cell 0 1 (by decide) (by decide)
  obtain ⟨g1, s1, e1, -, -, os, hc1, -, -⟩ := O2.cell 1 18 (by decide) (by decide)
  obtain ⟨g2, s2, e2, -, -, -, hc2, -, -⟩ := O2.cell 2 2 (by decide) (by decide)
  obtain ⟨g3, s3, e3, -, -, -, hc3, -, -⟩ := O2.cell 2 9 (by decide) (by decide)
  obtain rfl : g = g1 := by injection e1 with e; injection e
  obtain rfl : g = g2 := by injection e2 with e; injection e
  obtain rfl : g = g3 := by injection e3 with e; injection e
  clear e1 e2 e3
  replace hc0 : w2.cell? ⟨g, 1, none⟩ = some (.bool true) := hc0
  replace hc1 : w2.cell? ⟨g, 37, none⟩ = some s1 := hc1
  replace hc2 : w2.cell? ⟨g, 40, none⟩ = some (.bool true) := hc2
  replace hc3 : w2.cell? ⟨g, 47, none⟩ = some (.int .u32 2) := hc3
  replace os : OwnB w2 _ 5 s1 [99, 100] := os
  obtain ⟨A5, n5, c5, rfl, -, ts⟩ := OwnB.str os
  rw [show bstr [99, 100] = (⟨#[99, 100]⟩ : ByteArray) by rfl] at ts
  have hs2 := HB1.out.size
  have HB2 := Lib.hid (Bl.trans HB1.out (Bl.low B2 hs2))
  clear O2 os B2 HO
  go_wp2_with fail
  refine (room_calls true _).mono ?_
  rintro e w3 ⟨rfl, rfl⟩
  go_wp2
  go_ret
  exact ⟨rfl, HB2.out⟩
end Go.Proofs.Ytnhkmapeleomkaa.Frag
