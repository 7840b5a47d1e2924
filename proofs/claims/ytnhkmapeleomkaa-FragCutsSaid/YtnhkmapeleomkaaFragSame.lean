/- Contract of flumeref06.Same of two pieces alike. Conditions: their bodies' bytes read. -/
import Derived.Test.YtnhkmapeleomkaaFragOwn
namespace Go.Proofs.Ytnhkmapeleomkaa.Frag
open Go.RowKit Go.Proofs.Ytnhkmapeleomkaa.Mem Go.Proofs.Ytnhkmapeleomkaa.Octet
set_option linter.unusedVariables false
set_option linter.unusedSimpArgs false
set_option maxHeartbeats 1000000 in
set_option maxRecDepth 100000 in
theorem nosame (w : World) : Calls Try.prog 16 #[.slice none 0 0, .slice none 0 0] w fun e w' => e = .returned (.bool true) ∧ w' = w := by
  go_enter Try.func16, Try.ntmps16
  go_wp2_with fail
  go_loopw [13] (fun i wr => i = .int .i64 0 ∧ wr = w) (fun _ _ => 0)
  case atStart => exact ⟨rfl, rfl⟩
  case round =>
    obtain ⟨rfl, rfl⟩ := hrel
    go_wp2
    go_ret
    exact ⟨rfl, rfl⟩
set_option maxHeartbeats 4000000 in
set_option maxRecDepth 100000 in
theorem same_alike (k st mid pp fr : Int) (b e ls : Bool) (A A' : Option Addr) (c c' : Nat) (xs : List Int) (w : World) (lo lo' : Nat) (X : SlB w lo w.heap.size (.slice A xs.length c) xs) (X' : SlB w lo' w.heap.size (.slice A' xs.length c') xs) :
    Calls Try.prog 12 #[.agg #[.int .u8 k, .bool b, .bool e, .bool ls, .bool false, .int .u32 0, .int .u16 st, .int .u32 mid, .int .u32 pp, .int .u32 fr, .int .u32 0, .int .u32 0, .int .u16 0, .int .u16 0, .slice none 0 0, .slice none 0 0, .slice none 0 0, .slice none 0 0, .slice A xs.length c], .agg #[.int .u8 k, .bool b, .bool e, .bool ls, .bool false, .int .u32 0, .int .u16 st, .int .u32 mid, .int .u32 pp, .int .u32 fr, .int .u32 0, .int .u32 0, .int .u16 0, .int .u16 0, .slice none 0 0, .slice none 0 0, .slice none 0 0, .slice none 0 0, .slice A' xs.length c']] w fun e w' => e = .returned (.bool true) ∧ Below w.heap.size w w' := by
  obtain ⟨csA, hA⟩ : ∃ x : Array Value, x = #[.int .u8 k, .bool b, .bool e, .bool ls, .bool false, .int .u32 0, .int .u16 st, .int .u32 mid, .int .u32 pp, .int .u32 fr, .int .u32 0, .int .u32 0, .int .u16 0, .int .u16 0, .slice none 0 0, .slice none 0 0, .slice none 0 0, .slice none 0 0, .slice A xs.length c] := ⟨_, rfl⟩
  obtain ⟨csB, hB⟩ : ∃ x : Array Value, x = #[.int .u8 k, .bool b, .bool e, .bool ls, .bool false, .int .u32 0, .int .u16 st, .int .u32 mid, .int .u32 pp, .int .u32 fr, .int .u32 0, .int .u32 0, .int .u16 0, .int .u16 0, .slice none 0 0, .slice none 0 0, .slice none 0 0, .slice none 0 0, .slice A' xs.length c'] := ⟨_, rfl⟩
  rw [← hA, ← hB]
  have B1 : Below w.heap.size w (w.alloc (.cells csA 42)) := (Below.refl _ w).alloc (Nat.le_refl _) _
  have B2 : Below w.heap.size w ((w.alloc (.cells csA 42)).alloc (.cells csB 42)) := B1.alloc (by simp) _
  have bA := (Blk.new w csA 42).alloc (.cells csB 42)
  have bB : Blk ((w.alloc (.cells csA 42)).alloc (.cells csB 42)) (w.heap.size + 1) 42 csB := by simpa using Blk.new (w.alloc (.cells csA 42)) csB 42
  have tA := slb_str (SlB.bl X B2 (Nat.le_refl _))
  have tB := slb_str (SlB.bl X' B2 (Nat.le_refl _))
  have hsz : csA.size = 19 := by rw [hA]; rfl
  have hsz2 : csB.size = 19 := by rw [hB]; rfl
  have a0 := bA.cell 0
  rw [show csA[0]? = some (.int .u8 k) by rw [hA]; rfl] at a0
  have b0 := bB.cell 0
  rw [show csB[0]? = some (.int .u8 k) by rw [hB]; rfl] at b0
  have a1 := bA.cell 1
  rw [show csA[1]? = some (.bool b) by rw [hA]; rfl] at a1
  have b1 := bB.cell 1
  rw [show csB[1]? = some (.bool b) by rw [hB]; rfl] at b1
  have a2 := bA.cell 2
  rw [show csA[2]? = some (.bool e) by rw [hA]; rfl] at a2
  have b2 := bB.cell 2
  rw [show csB[2]? = some (.bool e) by rw [hB]; rfl] at b2
  have a3 := bA.cell 3
  rw [show csA[3]? = some (.bool ls) by rw [hA]; rfl] at a3
  have b3 := bB.cell 3
  rw [show csB[3]? = some (.bool ls) by rw [hB]; rfl] at b3
  have a4 := bA.cell 4
  rw [show csA[4]? = some (.bool false) by rw [hA]; rfl] at a4
  have b4 := bB.cell 4
  rw [show csB[4]? = some (.bool false) by rw [hB]; rfl] at b4
  have a5 := bA.cell 5
  rw [show csA[5]? = some (.int .u32 0) by rw [hA]; rfl] at a5
  have b5 := bB.cell 5
  rw [show csB[5]? = some (.int .u32 0) by rw [hB]; rfl] at b5
  have a6 := bA.cell 6
  rw [show csA[6]? = some (.int .u16 st) by rw [hA]; rfl] at a6
  have b6 := bB.cell 6
  rw [show csB[6]? = some (.int .u16 st) by rw [hB]; rfl] at b6
  have a7 := bA.cell 7
  rw [show csA[7]? = some (.int .u32 mid) by rw [hA]; rfl] at a7
  have b7 := bB.cell 7
  rw [show csB[7]? = some (.int .u32 mid) by rw [hB]; rfl] at b7
  have a8 := bA.cell 8
  rw [show csA[8]? = some (.int .u32 pp) by rw [hA]; rfl] at a8
  have b8 := bB.cell 8
  rw [show csB[8]? = some (.int .u32 pp) by rw [hB]; rfl] at b8
  have a9 := bA.cell 9
  rw [show csA[9]? = some (.int .u32 fr) by rw [hA]; rfl] at a9
  have b9 := bB.cell 9
  rw [show csB[9]? = some (.int .u32 fr) by rw [hB]; rfl] at b9
  have a10 := bA.cell 10
  rw [show csA[10]? = some (.int .u32 0) by rw [hA]; rfl] at a10
  have b10 := bB.cell 10
  rw [show csB[10]? = some (.int .u32 0) by rw [hB]; rfl] at b10
  have a11 := bA.cell 11
  rw [show csA[11]? = some (.int .u32 0) by rw [hA]; rfl] at a11
  have b11 := bB.cell 11
  rw [show csB[11]? = some (.int .u32 0) by rw [hB]; rfl] at b11
  have a12 := bA.cell 12
  rw [show csA[12]? = some (.int .u16 0) by rw [hA]; rfl] at a12
  have b12 := bB.cell 12
  rw [show csB[12]? = some (.int .u16 0) by rw [hB]; rfl] at b12
  have a13 := bA.cell 13
  rw [show csA[13]? = some (.int .u16 0) by rw [hA]; rfl] at a13
  have b13 := bB.cell 13
  rw [show csB[13]? = some (.int .u16 0) by rw [hB]; rfl] at b13
  have a14 := bA.cell 14
  rw [show csA[14]? = some (.slice none 0 0) by rw [hA]; rfl] at a14
  have b14 := bB.cell 14
  rw [show csB[14]? = some (.slice none 0 0) by rw [hB]; rfl] at b14
  have a15 := bA.cell 15
  rw [show csA[15]? = some (.slice none 0 0) by rw [hA]; rfl] at a15
  have b15 := bB.cell 15
  rw [show csB[15]? = some (.slice none 0 0) by rw [hB]; rfl] at b15
  have a16 := bA.cell 16
  rw [show csA[16]? = some (.slice none 0 0) by rw [hA]; rfl] at a16
  have b16 := bB.cell 16
  rw [show csB[16]? = some (.slice none 0 0) by rw [hB]; rfl] at b16
  have a17 := bA.cell 17
  rw [show csA[17]? = some (.slice none 0 0) by rw [hA]; rfl] at a17
  have b17 := bB.cell 17
  rw [show csB[17]? = some (.slice none 0 0) by rw [hB]; rfl] at b17
  have a18 := bA.cell 18
  rw [show csA[18]? = some (.slice A xs.length c) by rw [hA]; rfl] at a18
  have b18 := bB.cell 18
  rw [show csB[18]? = some (.slice A' xs.length c') by rw [hB]; rfl] at b18
  clear hA hB bA bB X X' B1
  go_enter Try.func12, Try.ntmps12
  go_wp2_with fail
  refine (nosame _).mono ?_
  rintro e1 w1 ⟨rfl, rfl⟩
  go_wp2_with fail
  go_loopw [149] (fun i wr => i = .int .i64 0 ∧ wr = ((w.alloc (.cells csA 42)).alloc (.cells csB 42))) (fun _ _ => 0)
  case atStart => exact ⟨rfl, rfl⟩
  case round =>
  obtain ⟨rfl, rfl⟩ := hrel
  go_wp2_with fail
  go_loopw [167] (fun i wr => i = .int .i64 0 ∧ wr = ((w.alloc (.cells csA 42)).alloc (.cells csB 42))) (fun _ _ => 0)
  case atStart => exact ⟨rfl, rfl⟩
  case round =>
  obtain ⟨rfl, rfl⟩ := hrel
  go_wp2_with fail
  go_loopw [185] (fun i wr => i = .int .i64 0 ∧ wr = ((w.alloc (.cells csA 42)).alloc (.cells csB 42))) (fun _ _ => 0)
  case atStart => exact ⟨rfl, rfl⟩
  case round =>
  obtain ⟨rfl, rfl⟩ := hrel
  go_wp2
  go_ret
  exact ⟨rfl, B2⟩
end Go.Proofs.Ytnhkmapeleomkaa.Frag
