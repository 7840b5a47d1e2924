/- The walk of flumelaw12.FragAlike: true for all messages and lengths. No conditions but the row's own. -/
import Derived.Test.YtnhkmapeleomkaaFragSee
import Derived.BigQuiet
import Derived.Deep.QuietTactic
namespace Go.Proofs.Ytnhkmapeleomkaa.FragAlike
open Go.RowKit Go.Proofs.Ytnhkmapeleomkaa.Mem Go.Proofs.Ytnhkmapeleomkaa.Octet Go.Proofs.Ytnhkmapeleomkaa.Frag
set_option linter.unusedVariables false
set_option linter.unusedSimpArgs false
theorem k_range (x : Int) : ∃ k : Nat, wrap64 (1 + wrap64 ((IntKind.u64.wrap x).tmod 1168)) = k ∧ 1 ≤ k ∧ k ≤ 1168 := by
  have h : 0 ≤ IntKind.u64.wrap x ∧ IntKind.u64.wrap x < 18446744073709551616 := by rw [IntKind.wrap_u64]; omega
  generalize IntKind.u64.wrap x = y at h
  have e : y.tmod 1168 = y % 1168 := Int.tmod_eq_emod_of_nonneg h.1
  rw [e]
  refine ⟨(1 + y % 1168).toNat, ?_, by omega, by omega⟩
  unfold wrap64
  omega
theorem cutE_same (k n : Nat) (h1 : 1 ≤ k) (h2 : k ≤ 1168) : cutE k false n = cutE k true n := by
  unfold cutE room
  simp only [Bool.false_eq_true, if_false, if_true]
  rw [if_neg (show ¬ ((k : Int) < 1 ∨ 1172 < (k : Int)) by omega), if_neg (show ¬ ((k : Int) < 1 ∨ 1168 < (k : Int)) by omega)]
/-- What frag.Cut hands back, the most as a natural number. -/
theorem cut_nat (lo hi : Nat) (st mid pp : Int) (ls : Bool) (A : Option Addr) (c : Nat) (bs : List Int) (k : Nat) (inter : Bool) (w : World) (h : SlB w lo hi (.slice A bs.length c) bs) (hhi : hi ≤ w.heap.size) (hmid : 0 ≤ mid ∧ mid < 4294967296) :
    Calls Try.prog 8 #[.agg #[.int .u16 st, .bool ls, .int .u32 mid, .int .u32 pp, .slice A bs.length c], .int .i64 k, .bool inter] w fun e w' => Below w.heap.size w w' ∧ ((cutE k inter bs.length = 0 ∧ ∃ B c', e = .returned (.tuple #[.slice B (npc k bs) c', .int .i64 0]) ∧ OwnCk w' w.heap.size (.slice B (npc k bs) c') (pieces st ls mid pp inter bs k)) ∨
      (cutE k inter bs.length ≠ 0 ∧ e = .returned (.tuple #[.slice none 0 0, .int .i64 (cutE k inter bs.length)]))) :=
  cut_calls lo hi st mid pp ls A c bs k inter w h hhi hmid
/-- The pieces of either kind, side by side. -/
theorem pieces_at (st : Int) (ls : Bool) (mid pp : Int) (bs : List Int) (k : Nat) : ∀ j (h1 : j < (pieces st ls mid pp true bs k).length) (h2 : j < (pieces st ls mid pp false bs k).length), ∃ (xs : List Int) (b e : Bool) (f : Int),
    (pieces st ls mid pp true bs k)[j] = { kind := 64, bg := b, en := e, ls := ls, st := st, mid := mid, pp := pp, fr := j, body := xs } ∧ (pieces st ls mid pp false bs k)[j] = { kind := 0, bg := b, en := e, ls := ls, st := st, mid := mid % 65536, pp := pp, fr := 0, body := xs } := by
  intro j h1 h2
  refine ⟨(bs.drop (j * k)).take k, decide (j = 0), decide (j + 1 = npc k bs), 0, ?_, ?_⟩
  · simp [pieces, piece, raw]
  · simp [pieces, piece, raw]
set_option maxHeartbeats 4000000 in
set_option maxRecDepth 100000 in
theorem walk (most : Int) (cs : List Value) (w : World) (hsee : Sees Try.prog w 26 cs) (hp : (Lit.int .i64 most).wf = true) :
    Calls Try.prog 5 #[.agg ⟨cs⟩, .int .i64 most] w fun e w' => e = .returned (.bool true) ∧ Below w.heap.size w w' := by
  obtain ⟨st, mid, pp, ls, A, c, bs, em, X, hmid, hbl⟩ := msg_of_see hsee
  rw [em]
  unfold msg
  clear em hsee hp
  have B0 : Below w.heap.size w (w.alloc (.cells #[.int .u16 st, .bool ls, .int .u32 mid, .int .u32 pp, .slice A bs.length c] 26)) := (Below.refl _ w).alloc (Nat.le_refl _) _
  have bM := Blk.new w #[.int .u16 st, .bool ls, .int .u32 mid, .int .u32 pp, .slice A bs.length c] 26
  obtain ⟨k, hk, hk1, hk2⟩ := k_range most
  have HK := Lib.hid hk
  clear hk
  have hup := Try.underlying26
  have hrm : (room false == wrap64 (room true + 4)) = true := by simp [room, wrap64]
  go_enter Try.func5, Try.ntmps5
  go_wp2_with fail
  refine (first_calls _).mono ?_
  rintro e w0 ⟨rfl, B1⟩
  have bM0 := Blk.fr bM (Fr.of_below (S := nothing) B1) id
  have X0 := SlB.bl (SlB.bl X B0 (Nat.le_refl _)) B1 (by simp)
  have B2 := Bl.trans B0 (Bl.low B1 (by simp))
  have cM0 := bM0.cell 0
  have cM1 := bM0.cell 1
  have cM2 := bM0.cell 2
  have cM3 := bM0.cell 3
  have cM4 := bM0.cell 4
  simp at cM0 cM1 cM2 cM3 cM4
  clear B0 B1 bM X
  go_upto_region 4 with fail
  rw [HK.out]
  by_cases h7 : 70000 < bs.length
  · have hd7 : decide ((70000 : Int) < bs.length) = true := decide_eq_true (by omega)
    clear h7
    go_wp2
    go_ret
    exact ⟨rfl, B2⟩
  · have hd7 : decide ((70000 : Int) < bs.length) = false := decide_eq_false (by omega)
    have hkp : (0 : Int) < k := by omega
    have hkn : ((k : Int) == 0) = false := beq_eq_false_iff_ne.2 (by omega)
    go_upto_region 6 with fail
    · go_wp2
      go_ret
      exact ⟨rfl, B2⟩
    · clear hd7 h7
      generalize wrap64 ((bs.length : Int) / k) = Q at *
      have hE := cutE_same k bs.length hk1 hk2
      have CA := cut_nat _ _ st mid pp ls A c bs k true w0 X0 B2.size hmid
      have HCA := Lib.hid CA
      have HE := Lib.hid hE
      clear CA hE
      go_wp2_with fail
      refine HCA.out.mono ?_
      rintro e w1 ⟨B3, hA⟩
      clear HCA
      have hs2 := B2.size
      have X1 := SlB.bl X0 B3 B2.size
      have bM1 := Blk.fr bM0 (Fr.of_below (S := nothing) B3) id
      have B4 := Bl.trans B2 (Bl.low B3 B2.size)
      have dM0 := bM1.cell 0
      have dM1 := bM1.cell 1
      have dM2 := bM1.cell 2
      have dM3 := bM1.cell 3
      have dM4 := bM1.cell 4
      simp at dM0 dM1 dM2 dM3 dM4
      have CB := cut_nat _ _ st mid pp ls A c bs k false w1 X1 B4.size hmid
      have HCB := Lib.hid CB
      have hs3 := B3.size
      clear CB X0 X1 bM0 cM0 cM1 cM2 cM3 cM4
      by_cases he : cutE k true bs.length = 0
      · obtain ⟨BA, ca, rfl, OA⟩ := (hA.resolve_right (fun h => h.1 he)).2
        clear hA
        go_wp2_with fail
        refine HCB.out.mono ?_
        rintro e w2 ⟨B5, hB⟩
        obtain ⟨BB, cb, rfl, OB⟩ := (hB.resolve_right (fun h => h.1 (HE.out.trans he))).2
        clear hB HCB
        have OA2 := OwnCk.fr (S := nothing) OA (Fr.of_below B5) (fun _ _ h => h)
        have B6 := Bl.trans B4 (Bl.low B5 B4.size)
        have hNb : npc k bs ≤ 70000 := by have := cutE_ok he; unfold npc; have := Nat.div_le_self (bs.length + k - 1) k; omega
        have hlA := pieces_len st ls mid pp true bs k
        have hlB := pieces_len st ls mid pp false bs k
        have HPC := Lib.hid (pieces_at st ls mid pp bs k)
        clear OA B3 B5 HE
        generalize npc k bs = N at *
        generalize pieces st ls mid pp true bs k = pA at *
        generalize pieces st ls mid pp false bs k = pB at *
        go_wp2_with fail
        go_loopw [54] (fun i wr => ∃ j : Nat, j ≤ N ∧ i = .int .i64 j ∧ OwnCk wr w0.heap.size (.slice BA N ca) pA ∧ OwnCk wr w1.heap.size (.slice BB N cb) pB ∧ Below w.heap.size w wr) (fun i _ => N - (intOf i).toNat)
        case atStart => exact ⟨0, Nat.zero_le _, rfl, OA2, OB, B6⟩
        case round =>
          clear OA2 OB B6
          obtain ⟨j, hj, rfl, OA2, OB, B6⟩ := hrel
          by_cases hlt : j < N
          · have hjl : (j : Int) < N := by omega
            have hj0 : (0 : Int) ≤ j := by omega
            obtain ⟨xs, b, e, f, eA, eB⟩ := HPC.out j (by omega) (by omega)
            obtain ⟨gA, sA, rfl, -, -, oA, kA18, -, -⟩ := OA2.cell j 18 (by omega) (by decide)
            obtain ⟨gB, sB, rfl, -, -, oB, kB18, -, -⟩ := OB.cell j 18 (by omega) (by decide)
            rw [eA] at oA
            rw [eB] at oB
            obtain ⟨A5, c5, rfl, -, -⟩ := OwnB.slice oA
            obtain ⟨A6, c6, rfl, -, -⟩ := OwnB.slice oB
            have tA : ∀ n, (convert 24 9 (.slice A5 xs.length c5)).run Try.prog (wr.drewN n) = .ok (.string (bstr xs)) (wr.drewN n) := fun n => slb_str (SlB.of_own (OwnB.fr oA (S := nothing) ((Fr.refl _ wr).drewN n) (fun _ _ h => h)))
            have tB : ∀ n, (convert 24 9 (.slice A6 xs.length c6)).run Try.prog (wr.drewN n) = .ok (.string (bstr xs)) (wr.drewN n) := fun n => slb_str (SlB.of_own (OwnB.fr oB (S := nothing) ((Fr.refl _ wr).drewN n) (fun _ _ h => h)))
            rw [eA] at kA18
            rw [eB] at kB18
            replace kA18 : wr.cell? ⟨gA, j * 19 + 18, none⟩ = some (.slice A5 xs.length c5) := kA18
            replace kB18 : wr.cell? ⟨gB, j * 19 + 18, none⟩ = some (.slice A6 xs.length c6) := kB18
            obtain ⟨g1, s1, q1, -, -, -, kA1, -, -⟩ := OA2.cell j 1 (by omega) (by decide)
            rw [eA] at kA1
            obtain rfl : gA = g1 := by injection q1 with q; injection q
            clear q1
            obtain ⟨g2, s2, q2, -, -, -, kA2, -, -⟩ := OA2.cell j 2 (by omega) (by decide)
            rw [eA] at kA2
            obtain rfl : gA = g2 := by injection q2 with q; injection q
            clear q2
            obtain ⟨g3, s3, q3, -, -, -, kA0, -, -⟩ := OA2.cell j 0 (by omega) (by decide)
            rw [eA] at kA0
            obtain rfl : gA = g3 := by injection q3 with q; injection q
            clear q3
            obtain ⟨g4, s4, q4, -, -, -, kA7, -, -⟩ := OA2.cell j 7 (by omega) (by decide)
            rw [eA] at kA7
            obtain rfl : gA = g4 := by injection q4 with q; injection q
            clear q4
            obtain ⟨g5, s5, q5, -, -, -, kB1, -, -⟩ := OB.cell j 1 (by omega) (by decide)
            rw [eB] at kB1
            obtain rfl : gB = g5 := by injection q5 with q; injection q
            clear q5
            obtain ⟨g6, s6, q6, -, -, -, kB2, -, -⟩ := OB.cell j 2 (by omega) (by decide)
            rw [eB] at kB2
            obtain rfl : gB = g6 := by injection q6 with q; injection q
            clear q6
            obtain ⟨g7, s7, q7, -, -, -, kB0, -, -⟩ := OB.cell j 0 (by omega) (by decide)
            rw [eB] at kB0
            obtain rfl : gB = g7 := by injection q7 with q; injection q
            clear q7
            obtain ⟨g8, s8, q8, -, -, -, kB7, -, -⟩ := OB.cell j 7 (by omega) (by decide)
            rw [eB] at kB7
            obtain rfl : gB = g8 := by injection q8 with q; injection q
            clear q8
            replace kA1 : wr.cell? ⟨gA, j * 19 + 1, none⟩ = some (.bool b) := kA1
            replace kA2 : wr.cell? ⟨gA, j * 19 + 2, none⟩ = some (.bool e) := kA2
            replace kA0 : wr.cell? ⟨gA, j * 19, none⟩ = some (.int .u8 64) := kA0
            replace kA7 : wr.cell? ⟨gA, j * 19 + 7, none⟩ = some (.int .u32 mid) := kA7
            replace kB1 : wr.cell? ⟨gB, j * 19 + 1, none⟩ = some (.bool b) := kB1
            replace kB2 : wr.cell? ⟨gB, j * 19 + 2, none⟩ = some (.bool e) := kB2
            replace kB0 : wr.cell? ⟨gB, j * 19, none⟩ = some (.int .u8 0) := kB0
            replace kB7 : wr.cell? ⟨gB, j * 19 + 7, none⟩ = some (.int .u32 (mid % 65536)) := kB7
            have w1 : IntKind.u16.wrap mid = mid % 65536 := IntKind.wrap_u16 mid
            have w2 : IntKind.u16.wrap (mid % 65536) = mid % 65536 := by rw [IntKind.wrap_u16]; omega
            have w3 : decide (65535 < mid % 65536) = false := decide_eq_false (by omega)
            have HOA := Lib.hid OA2
            have HOB := Lib.hid OB
            have HB6 := Lib.hid B6
            clear OA2 OB oA oB eA eB B6
            generalize mid % 65536 = r at *
            go_upto_region 13 with fail
            go_quiet (fail)
            go_wp2
            go_roundw
            case rel => exact ⟨j + 1, by omega, by go_num, OwnCk.fr (S := nothing) HOA.out ((Fr.refl _ _).drewN _) (fun _ _ h => h), OwnCk.fr (S := nothing) HOB.out ((Fr.refl _ _).drewN _) (fun _ _ h => h), Bl.trans HB6.out (Bl.of_fr (S := nothing) ((Fr.refl _ _).drewN _) HB6.out.size (fun k h => False.elim h))⟩
            case measure => simp [intOf]; omega
          · have hjl : ¬ (j : Int) < N := by omega
            go_wp2_with (first | (go_at_call 10; first | (refine (room_calls false _).mono ?_; rintro e w9 ⟨rfl, rfl⟩) | (refine (room_calls true _).mono ?_; rintro e w9 ⟨rfl, rfl⟩)))
            go_ret
            exact ⟨rfl, B6⟩
      · have eA := (hA.resolve_left (fun h => he h.1)).2
        subst eA
        clear hA
        go_wp2_with fail
        refine HCB.out.mono ?_
        rintro e w2 ⟨B5, hB⟩
        have eB := (hB.resolve_left (fun h => he (HE.out.symm.trans h.1))).2
        rw [HE.out] at eB
        subst eB
        clear hB HCB
        have B6 := Bl.trans B4 (Bl.low B5 B4.size)
        generalize cutE k true bs.length = E at *
        have hEE : (E != E) = false := by simp
        clear B3 B5 HE
        go_wp2_with fail
        go_loopw [54] (fun i wr => i = .int .i64 0 ∧ wr = w2) (fun i _ => 0)
        case atStart => exact ⟨rfl, rfl⟩
        case round =>
          obtain ⟨rfl, rfl⟩ := hrel
          go_wp2_with (first | (go_at_call 10; first | (refine (room_calls false _).mono ?_; rintro e w9 ⟨rfl, rfl⟩) | (refine (room_calls true _).mono ?_; rintro e w9 ⟨rfl, rfl⟩)))
          go_ret
          exact ⟨rfl, B6⟩
end Go.Proofs.Ytnhkmapeleomkaa.FragAlike
