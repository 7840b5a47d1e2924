/- Contracts of dcep's offers: which limits and texts may be, offers as bytes. Conditions: utf8's tables read as laid; each names its blocks. -/
import Derived.Test.YtdbndinnakkloaaDoorOcN
import Derived.Shelf.Lay
import Derived.Shelf.Unicode.ValidAny
import Derived.Ground.NamesProg
import Derived.Lib.ConvBytes
namespace Go.Proofs
open Go.RowKit Go.Shelf Go.Lib
shelf_lay Lays.n196 Nm 196 at Tryd as Tryd.laysValid
end Go.Proofs
namespace Go.Proofs.YtdbndinnakkloaaDoor.Dcp
open Go.RowKit Go.Proofs.YtdbndinnakkloaaDoor.Mem Go.Proofs.YtdbndinnakkloaaDoor.Octet
set_option linter.unusedVariables false
set_option linter.unusedSimpArgs false
/-- utf8's tables read as laid. -/
def Tabs (w : World) : Prop := Lib.Utf8Tabs (Tryd.laysValid_ren.g 3) (Tryd.laysValid_ren.g 4) w
theorem Tabs.below {w w' : World} (h : Tabs w) (hb : Below w.heap.size w w') : Tabs w' := Utf8Tabs_below h hb
/-- A string's bytes. -/
def sb (s : ByteArray) : List Int := s.data.toList.map fun b => (b.toNat : Int)
theorem sb_len (s : ByteArray) : (sb s).length = s.size := by simp [sb]
theorem sb_isb (s : ByteArray) : IsB (sb s) := by
  intro x hx
  obtain ⟨b, -, rfl⟩ := List.mem_map.1 hx
  have := b.toNat_lt
  omega
/-- Valid text. -/
def vd (s : ByteArray) : Bool := Lib.validD s.data.toList
theorem conv_bytes (s : ByteArray) (w : World) (hs : s.size ≤ 140737488355328) :
    ∃ A cap W, (convert 9 22 (.string s)).run Tryd.prog w = .ok (.slice A s.size cap) W ∧ SlB W w.heap.size W.heap.size (.slice A s.size cap) (sb s) ∧ Below w.heap.size w W := by
  have hm : s.size ≤ maxLen := by unfold maxLen; omega
  have hB : Below w.heap.size w (Lib.bytesWorld w 5 s) := ⟨rfl, rfl, rfl, by rw [Lib.bytesWorld_size]; omega, fun k hk => Lib.bytesWorld_at_old w _ s k hk⟩
  have hS : SlB (Lib.bytesWorld w 5 s) w.heap.size (Lib.bytesWorld w 5 s).heap.size (.slice (some ⟨w.heap.size, 0, none⟩) s.size (grownCap w s.size 0 5)) (sb s) := by
    refine ⟨some ⟨w.heap.size, 0, none⟩, grownCap w s.size 0 5, by rw [sb_len], by rw [sb_len]; exact grownCap_ge _ _ _ _, grownCap_le_maxLen _ _ _ _ hm, (fun h => by cases h), .inr ⟨_, rfl, Nat.le_refl _, by rw [Lib.bytesWorld_size]; exact Nat.lt_succ_self _, fun i hi => ?_⟩⟩
    have hi' : i < s.size := by rw [sb_len] at hi; exact hi
    have ha : (⟨w.heap.size, 0, none⟩ : Addr).add i = ⟨w.heap.size, i, none⟩ := by unfold Addr.add; split <;> simp_all
    rw [ha, Lib.bytesWorld_cell w _ s i hi']
    have hl : i < s.data.toList.length := by simpa using hi'
    have hl2 : i < s.data.size := hi'
    simp only [sb, List.getD, List.getElem_map, Array.getElem?_toList, Array.getElem?_eq_getElem hl2, Option.getD_some, Array.getElem_toList]
  exact ⟨_, _, _, Lib.run_convert_string_bytes w 9 22 5 s Tryd.underlying9 Tryd.underlying22 Tryd.underlying5, hS, hB⟩
theorem uvalid_calls (s : ByteArray) (w : World) (hs : s.size ≤ 9223372036854775807) (hT : Tabs w) :
    Calls Tryd.prog 40 #[.string s] w fun e w' => e = .returned (.bool (vd s)) ∧ Below w.heap.size w w' := Any.utf8_ValidString Tryd.laysValid s w hs hT
set_option maxRecDepth 100000 in
theorem valid_calls (s : ByteArray) (w : World) (hs : s.size ≤ 9223372036854775807) (hT : Tabs w) :
    Calls Tryd.prog 37 #[.string s] w fun e w' => e = .returned (.bool (vd s)) ∧ Below w.heap.size w w' := by
  go_enter Tryd.func37, Tryd.ntmps37
  go_wp2_with fail
  refine (uvalid_calls s w hs hT).mono ?_
  rintro e w1 ⟨rfl, B⟩
  go_wp2
  go_ret
  exact ⟨rfl, B⟩
/-- Which limits may be. -/
def rightB (k n : Int) : Bool := (k == 0 && n == 0) || k == 1 || k == 2
set_option maxHeartbeats 1000000 in
set_option maxRecDepth 100000 in
theorem right_calls (k n : Int) (w : World) :
    Calls Tryd.prog 21 #[.agg #[.int .i64 k, .int .u32 n]] w fun e w' => e = .returned (.bool (rightB k n)) ∧ Below w.heap.size w w' := by
  have B1 : Below w.heap.size w (w.alloc (.cells #[.int .i64 k, .int .u32 n] 27)) := (Below.refl _ w).alloc (Nat.le_refl _) _
  unfold rightB
  rcases Bool.eq_false_or_eq_true (k == 0) with h0 | h0
  · rcases Bool.eq_false_or_eq_true (n == 0) with h1 | h1
    · go_enter Tryd.func21, Tryd.ntmps21
      go_wp2
      go_ret
      exact ⟨by simp [h0, h1], B1⟩
    · have e0 : k = 0 := by simpa using h0
      subst e0
      go_enter Tryd.func21, Tryd.ntmps21
      go_wp2
      go_ret
      exact ⟨by simp [h1], B1⟩
  · rcases Bool.eq_false_or_eq_true (k == 1) with h1 | h1
    · go_enter Tryd.func21, Tryd.ntmps21
      go_wp2
      go_ret
      exact ⟨by simp [h0, h1], B1⟩
    · go_enter Tryd.func21, Tryd.ntmps21
      go_wp2
      go_ret
      exact ⟨by simp [h0, h1], B1⟩
/-- An offer's cells. -/
def off (ls : Bool) (k n pri : Int) (l p : ByteArray) : Array Value := #[.bool ls, .int .i64 k, .int .u32 n, .int .u16 pri, .string l, .string p]
/-- The error of texts. -/
def textE (l p : ByteArray) : Int := if 255 < l.size ∨ 255 < p.size then 43 else if (vd l && vd p) = true then 0 else 200
set_option maxHeartbeats 2000000 in
set_option maxRecDepth 100000 in
theorem texts_calls (ls : Bool) (k n pri : Int) (l p : ByteArray) (w : World) (hT : Tabs w) (hl : l.size ≤ 9223372036854775807) (hp : p.size ≤ 9223372036854775807) :
    Calls Tryd.prog 24 #[.agg #[.bool ls, .int .i64 k, .int .u32 n, .int .u16 pri, .string l, .string p]] w fun e w' => e = .returned (.int .i64 (textE l p)) ∧ Below w.heap.size w w' := by
  have B1 : Below w.heap.size w (w.alloc (.cells #[.bool ls, .int .i64 k, .int .u32 n, .int .u16 pri, .string l, .string p] 30)) := (Below.refl _ w).alloc (Nat.le_refl _) _
  have bO := Blk.new w #[.bool ls, .int .i64 k, .int .u32 n, .int .u16 pri, .string l, .string p] 30
  have T1 := hT.below B1
  have c0 := bO.cell 0
  have c1 := bO.cell 1
  have c2 := bO.cell 2
  have c3 := bO.cell 3
  have c4 := bO.cell 4
  have c5 := bO.cell 5
  simp at c0 c1 c2 c3 c4 c5
  unfold textE
  by_cases h1 : 255 < l.size
  · have hd1 : decide ((255 : Int) < l.size) = true := decide_eq_true (by omega)
    rw [if_pos (.inl h1)]
    clear h1
    go_enter Tryd.func24, Tryd.ntmps24
    go_wp2
    go_ret
    exact ⟨rfl, B1⟩
  · have hd1 : decide ((255 : Int) < l.size) = false := decide_eq_false (by omega)
    by_cases h2 : 255 < p.size
    · have hd2 : decide ((255 : Int) < p.size) = true := decide_eq_true (by omega)
      rw [if_pos (.inr h2)]
      clear h1 h2
      go_enter Tryd.func24, Tryd.ntmps24
      go_wp2
      go_ret
      exact ⟨rfl, B1⟩
    · have hd2 : decide ((255 : Int) < p.size) = false := decide_eq_false (by omega)
      rw [if_neg (by omega)]
      generalize hE : (if (vd l && vd p) = true then (0 : Int) else 200) = E
      have HE := Lib.hid hE
      clear h1 h2 hE
      have V1 := Lib.hid (valid_calls l _ hl T1)
      rcases hv : vd l with _ | _
      · rw [hv] at V1
        go_enter Tryd.func24, Tryd.ntmps24
        go_wp2_with fail
        refine V1.out.mono ?_
        rintro e w1 ⟨rfl, B2⟩
        go_wp2
        go_ret
        exact ⟨by rw [← HE.out, hv]; rfl, Bl.trans B1 (Bl.low B2 B1.size)⟩
      · rw [hv] at V1
        go_enter Tryd.func24, Tryd.ntmps24
        go_wp2_with fail
        refine V1.out.mono ?_
        rintro e w1 ⟨rfl, B2⟩
        have T2 := T1.below B2
        have bO2 := Blk.fr bO (Fr.of_below (S := nothing) B2) id
        have B3 := Bl.trans B1 (Bl.low B2 B1.size)
        clear c0 c1 c2 c3 c4 c5 B2 V1 bO B1
        have c0 := bO2.cell 0
        have c1 := bO2.cell 1
        have c2 := bO2.cell 2
        have c3 := bO2.cell 3
        have c4 := bO2.cell 4
        have c5 := bO2.cell 5
        simp at c0 c1 c2 c3 c4 c5
        have V2 := Lib.hid (valid_calls p _ hp T2)
        rcases hv2 : vd p with _ | _
        · rw [hv2] at V2
          go_wp2_with fail
          refine V2.out.mono ?_
          rintro e w2 ⟨rfl, B4⟩
          have B5 := Bl.trans B3 (Bl.low B4 B3.size)
          go_wp2
          go_ret
          exact ⟨by rw [← HE.out, hv, hv2]; rfl, B5⟩
        · rw [hv2] at V2
          go_wp2_with fail
          refine V2.out.mono ?_
          rintro e w2 ⟨rfl, B4⟩
          have B5 := Bl.trans B3 (Bl.low B4 B3.size)
          go_wp2
          go_ret
          exact ⟨by rw [← HE.out, hv, hv2]; rfl, B5⟩
end Go.Proofs.YtdbndinnakkloaaDoor.Dcp
