/- The contracts of chunk.flag and of the chunk's reader: must, rest, params. Conditions: each names its blocks. -/
import Derived.Test.YtaifihoheieneaaZChkMath
import Derived.Test.YtaifihoheieneaaZPrmMath
import Derived.Deep.RegionHeldLaw
import Derived.Deep.DrawnRows
namespace Go.Proofs.Ytaifihoheieneaa.Chk
open Go.RowKit Go.Proofs.Ytaifihoheieneaa.Mem Go.Proofs.Ytaifihoheieneaa.Octet Go.Proofs.Ytaifihoheieneaa.Prm
set_option linter.unusedVariables false
set_option linter.unusedSimpArgs false
attribute [local go_sem ↓] Go.wp_at_zero Go.wp_at_succ
/-- Where the reading stands: m bytes were asked for. -/
def at2 (xs : List Int) (m : Nat) : Int := num (tk (xs.drop m) 2)
def at4 (xs : List Int) (m : Nat) : Int := num (tk (xs.drop m) 4)
theorem lf_drop (xs : List Int) (m n : Nat) : lf (xs.drop m) n = xs.drop (m + n) := by
  unfold lf
  split
  · rename_i h
    rw [List.length_drop] at h
    exact (List.drop_eq_nil_of_le (by omega)).symm
  · rw [List.drop_drop]
    simp
theorem bd_drop (xs : List Int) (m n : Nat) (hn : 0 < n) : bd (xs.drop m) (decide (xs.length < m)) n = decide (xs.length < m + n) := by
  unfold bd
  split
  · rename_i h
    rw [List.length_drop] at h
    exact (decide_eq_true (by omega)).symm
  · rename_i h
    rw [List.length_drop] at h
    rw [decide_eq_false (by omega), decide_eq_false (by omega)]
theorem at2_rng {xs : List Int} (h : IsB xs) (m : Nat) : 0 ≤ at2 xs m ∧ at2 xs m < 65536 := by
  refine ⟨(num_range _).1, num_2 _ (tk_len _ 2) (isb_tk (isb_drop h m) _)⟩
theorem at4_rng (xs : List Int) (m : Nat) : 0 ≤ at4 xs m ∧ at4 xs m < 4294967296 := num_range _
theorem rd2_calls (g lo hi : Nat) (xs : List Int) (m : Nat) (w : World) (h : Rdr w g lo hi (xs.drop m) (decide (xs.length < m))) (hB : IsB xs) :
    Calls Try.prog 37 #[.pointer (some ⟨g, 0, none⟩)] w fun e w' => e = .returned (.int .u16 (at2 xs m)) ∧ Rdr w' g lo hi (xs.drop (m + 2)) (decide (xs.length < m + 2)) ∧ Fr (only g) w w' := by
  have C := u16_calls g lo hi _ _ w h (isb_drop hB m) h.choose_spec.1.lt
  unfold Num1P at C
  have e1 := lf_drop xs m 2
  have e2 := bd_drop xs m 2 (by decide)
  rw [show ((2 : Nat) : Int) = 2 from rfl] at e1 e2
  rw [e1, e2] at C
  exact C
theorem rd4_calls (g lo hi : Nat) (xs : List Int) (m : Nat) (w : World) (h : Rdr w g lo hi (xs.drop m) (decide (xs.length < m))) (hB : IsB xs) :
    Calls Try.prog 55 #[.pointer (some ⟨g, 0, none⟩)] w fun e w' => e = .returned (.int .u32 (at4 xs m)) ∧ Rdr w' g lo hi (xs.drop (m + 4)) (decide (xs.length < m + 4)) ∧ Fr (only g) w w' := by
  have C := u32_calls g lo hi _ _ w h (isb_drop hB m) h.choose_spec.1.lt
  unfold Num1P at C
  have e1 := lf_drop xs m 4
  have e2 := bd_drop xs m 4 (by decide)
  rw [show ((4 : Nat) : Int) = 4 from rfl] at e1 e2
  rw [e1, e2] at C
  exact C
set_option maxRecDepth 100000 in
theorem flag_calls (g : Nat) (f v : Int) (w : World) (h : Blk w g 5 #[.int .u8 f]) :
    Calls Try.prog 54 #[.pointer (some ⟨g, 0, none⟩), .int .u8 v] w fun e w' => e = .returned (.bool (bits .and .u8 f v != 0)) ∧ Blk w' g 5 #[.int .u8 (bits .andNot .u8 f v)] ∧ Fr (only g) w w' := by
  have c0 := h.cell 0
  have f0 := h.frozen 0
  simp at c0
  go_enter Try.func54, Try.ntmps54
  go_wp2
  go_ret
  exact ⟨rfl, h.set 0 _, (Fr.refl _ _).set_only 0 none _⟩
set_option maxRecDepth 100000 in
theorem must_calls (g : Nat) (p : Value) (bad is : Bool) (w : World) (h : Blk w g 89 #[p, .bool bad]) :
    Calls Try.prog 56 #[.pointer (some ⟨g, 0, none⟩), .bool is] w fun e w' => e = .returned (.tuple #[]) ∧ Blk w' g 89 #[p, .bool (bad || !is)] ∧ Fr (only g) w w' := by
  have c1 := h.cell 1
  have f1 := h.frozen 1
  simp at c1
  have hs : ∀ v, Blk (w.setCell ⟨g, 1, none⟩ v) g 89 #[p, v] := fun v => h.set 1 v
  have hf : ∀ v, Fr (only g) w (w.setCell ⟨g, 1, none⟩ v) := fun v => (Fr.refl _ _).set_only 1 none v
  cases bad <;> cases is
  all_goals
    go_enter Try.func56, Try.ntmps56
    go_wp2
    first | go_end0 | ((try simp only [Exit.inBlock, Exit.then]); refine bodyPost_ret (results_none rfl _ _ _) rfl ?_)
    exact ⟨rfl, hs _, hf _⟩
theorem tk_all (bs : List Int) : tk bs bs.length = bs := by unfold tk; rw [if_neg (by omega)]; simp
theorem lf_all (bs : List Int) : lf bs bs.length = [] := by unfold lf; rw [if_neg (by omega)]; simp
theorem bd_all (bs : List Int) (b : Bool) : bd bs b bs.length = b := by unfold bd; rw [if_neg (by omega)]
set_option maxHeartbeats 4000000 in
set_option maxRecDepth 100000 in
theorem rest_calls (gX g lo hi : Nat) (bs : List Int) (bb bad : Bool) (w : World) (h : Blk w gX 89 #[.pointer (some ⟨g, 0, none⟩), .bool bad]) (hR : Rdr w g lo hi bs bb) :
    Calls Try.prog 57 #[.pointer (some ⟨gX, 0, none⟩)] w fun e w' => ∃ v, e = .returned v ∧ OwnB w' w.heap.size 5 v bs ∧ Rdr w' g lo hi [] bb ∧ Fr (only g) w w' := by
  have cx0 := (h.drew).cell 0
  simp at cx0
  have HX := Lib.hid h.drew
  have hne : gX ≠ g := Blk.ne h hR.choose_spec.1 (by decide)
  have R1 := hR.fr (S := nothing) (Fr.refl _ w).drew id (fun _ _ _ h => h)
  have HL := Lib.hid (left_calls g lo hi bs bb _ R1)
  have CT := take_calls g lo hi bs bb bs.length _ R1
  rw [tk_all, lf_all, bd_all] at CT
  have HT := Lib.hid CT
  clear CT R1 h hR
  go_enter Try.func57, Try.ntmps57
  go_wp2_with fail
  go_region_held_law (fun wq => wq.cell? ⟨gX, 0, none⟩ = some (.pointer (some ⟨g, 0, none⟩))) (first | exact cx0 | exact jx0) (first
    | (go_at_call 43; refine HL.out.mono ?_; rintro e w1 ⟨rfl, rfl⟩)
    | (go_at_call 39; refine HT.out.mono ?_; rintro e w2 ⟨v2, rfl, o2, r2, f2⟩; have jx0 := (HX.out.fr f2 hne).cell 0; simp at jx0))
  rename_i hK hH
  refine hK _ _ ?_
  clear hK hH
  go_wp2
  go_ret
  exact ⟨v2, rfl, o2, r2, ((Fr.refl _ w).drew).trans f2 (fun _ _ h => h)⟩
set_option maxHeartbeats 4000000 in
set_option maxRecDepth 100000 in
theorem params_calls (gX g lo hi : Nat) (bs : List Int) (bb bad : Bool) (w : World) (h : Blk w gX 89 #[.pointer (some ⟨g, 0, none⟩), .bool bad]) (hR : Rdr w g lo hi bs bb) (hB : IsB bs) (hl : bs.length ≤ 1000000) (hx : ¬ (lo ≤ gX ∧ gX < hi)) :
    Calls Try.prog 58 #[.pointer (some ⟨gX, 0, none⟩)] w fun e w' => ∃ B c, e = .returned (.slice B (dec bs).1.length c) ∧ OwnPm w' w.heap.size (.slice B (dec bs).1.length c) (dec bs).1 ∧
      Blk w' gX 89 #[.pointer (some ⟨g, 0, none⟩), .bool (bad || !((dec bs).2 == 0))] ∧ Rdr w' g lo hi [] bb ∧ Fr (fun k => k = g ∨ k = gX) w w' := by
  have hne : gX ≠ g := Blk.ne h hR.choose_spec.1 (by decide)
  have hxl := h.lt
  have CR := rest_calls gX g lo hi bs bb bad w h hR
  have HCR := Lib.hid CR
  have HH := Lib.hid h
  clear CR hR h
  obtain ⟨ps, hps⟩ : ∃ x, (dec bs).1 = x := ⟨_, rfl⟩
  obtain ⟨E, hE⟩ : ∃ x, (dec bs).2 = x := ⟨_, rfl⟩
  rw [hps, hE]
  have HPS := Lib.hid hps
  have HE := Lib.hid hE
  clear hps hE
  go_enter Try.func58, Try.ntmps58
  go_wp2_with fail
  refine HCR.out.mono ?_
  rintro e w1 ⟨v1, rfl, o1, r1, f1⟩
  have b1 := HH.out.fr f1 hne
  have hgl := r1.choose_spec.1.lt
  have CP := get_calls _ _ _ bs w1 (SlB.of_own o1) hB hl
  unfold GetR at CP
  rw [HPS.out, HE.out] at CP
  have HCP := Lib.hid CP
  clear CP o1 HCR HH
  go_wp2_with fail
  refine HCP.out.mono ?_
  rintro e w2 ⟨B2, Bp, cp, rfl, op⟩
  have b2 := b1.fr (Fr.of_below (S := nothing) B2) id
  have r2 := r1.fr (Fr.of_below (S := nothing) B2) id (fun _ _ _ h => h)
  have HM := Lib.hid (must_calls gX _ bad (E == 0) w2 b2)
  clear HCP b1
  go_wp2_with fail
  refine HM.out.mono ?_
  rintro e w3 ⟨rfl, b3, f3⟩
  clear HM
  have hs12 := B2.size
  have hs1 := f1.size
  go_wp2
  go_ret
  refine ⟨Bp, cp, rfl, (op.fr f3 (fun k h1 h2 => by have h9 : k = gX := h2; omega)).low hs1, b3, ?_, ?_⟩
  · refine r2.fr f3 (fun h => hne h.symm) (fun k h1 h2 h3 => ?_)
    have h9 : k = gX := h3
    subst h9
    exact hx ⟨h1, h2⟩
  · exact ((f1.mono (fun k _ h => .inl h)).trans (Fr.of_below (S := nothing) B2) (fun _ _ h => h.elim)).trans f3 (fun k _ h => .inr h)
end Go.Proofs.Ytaifihoheieneaa.Chk
