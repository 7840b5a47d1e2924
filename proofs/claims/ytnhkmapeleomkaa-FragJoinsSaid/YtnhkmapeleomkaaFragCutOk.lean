/- Contract of frag.Cut where it cuts. Conditions: each names its blocks and the bounds. -/
import Derived.Test.YtnhkmapeleomkaaFragCut
namespace Go.Proofs.Ytnhkmapeleomkaa.Frag
open Go.RowKit Go.Shelf Go.Proofs.Ytnhkmapeleomkaa.Mem Go.Proofs.Ytnhkmapeleomkaa.Octet
set_option linter.unusedVariables false
set_option linter.unusedSimpArgs false
attribute [local go_sem] Oper.semAt_some
theorem pLen_eq (m len k : Nat) (bs : List Int) (h : len = bs.length) : ((bs.drop (k * m)).take m).length = pLen m len k := by
  unfold pLen
  rw [List.length_take, List.length_drop, h]
  split <;> omega
theorem piece_sl {w : World} {lo hi : Nat} {ad : Addr} {c m : Nat} {bs : List Int} (x : Pk m bs.length) (h : SlB w lo hi (.slice (some ad) bs.length c) bs) :
    SlB w lo hi (.slice (pAt ad (x.1 * m)) (pLen m bs.length x.1) (pLen m bs.length x.1)) ((bs.drop (x.1 * m)).take m) := by
  obtain ⟨A', cap, e, h1, h2, h3, h4⟩ := h
  injection e with e1 _ e3
  subst e1; subst e3
  have hx := x.2
  have hd := h4.drop (n := x.1 * m) (by omega) h1
  rw [if_neg (by omega)] at hd
  have hl := pLen_eq m bs.length x.1 bs rfl
  refine ⟨some (ad.add (x.1 * m)), pLen m bs.length x.1, by rw [hl]; rfl, by rw [hl]; exact Nat.le_refl _, ?_, (fun e => by cases e), hd.take _⟩
  rw [← hl, List.length_take, List.length_drop]
  omega
set_option maxHeartbeats 4000000 in
set_option maxRecDepth 100000 in
theorem cut_ok (lo hi : Nat) (st mid pp : Int) (ls : Bool) (ad : Addr) (c : Nat) (bs : List Int) (m : Nat) (inter : Bool) (w : World) (h : SlB w lo hi (.slice (some ad) bs.length c) bs) (hhi : hi ≤ w.heap.size)
    (hm0 : 0 < m) (hm1 : (m : Int) ≤ room inter) (hn0 : 0 < bs.length) (hn1 : bs.length ≤ 65536) (hmid : 0 ≤ mid ∧ mid < 4294967296) (hc : bs.length ≤ c ∧ c ≤ maxLen) :
    Calls Try.prog 8 #[msg st ls mid pp (some ad) bs.length c, .int .i64 m, .bool inter] w fun e w' => ∃ B c', e = .returned (.tuple #[.slice B (npc m bs) c', .int .i64 0]) ∧ OwnCk w' w.heap.size (.slice B (npc m bs) c') (pieces st ls mid pp inter bs m) ∧ Below w.heap.size w w' := by
  have hd1 : decide ((m : Int) < 1) = false := decide_eq_false (by omega)
  have hd2 : decide (room inter < (m : Int)) = false := decide_eq_false (by omega)
  have hd3 : ((bs.length : Int) == 0) = false := beq_eq_false_iff_ne.2 (by omega)
  have hd4 : decide ((65536 : Int) < bs.length) = false := decide_eq_false (by omega)
  unfold msg
  refine (callsIn_wide (n := 3)).1 ?_
  refine callsIn_of_wp_marks Try.func8 rfl trivial ?_ rfl
  simp only [Try.ntmps8, List.size_toArray, List.length_cons, List.length_nil, Nat.reduceAdd, Nat.reduceSub, Array.replicate_succ, Array.replicate_zero, List.push_toArray, List.append_toArray, List.nil_append, List.cons_append]
  gi_wp2_with (first | (refine ⟨trivial, ?_⟩; gi_at_call 14; refine (callsIn_wide.2 (chunk_calls _ _ _ m (by omega) _)).mono ?_; rintro e w' ⟨rfl, rfl⟩) | (refine ⟨trivial, ?_⟩; gi_at_call 10; refine (callsIn_wide.2 (room_calls inter _)).mono ?_; rintro e w' ⟨rfl, rfl⟩))
  obtain ⟨W0, hW0⟩ : ∃ W0, (((((w.alloc (.cells #[.int .u16 st, .bool ls, .int .u32 mid, .int .u32 pp, .slice (some ad) bs.length c] 26)).alloc (.cells #[.bool inter] 4)).alloc (.cells #[.slice none 0 0] 28)).alloc (.cells #[.slice (some ad) bs.length c] 24)).alloc (.cells #[.int .i64 m] 3)) = W0 := ⟨_, rfl⟩
  have hsz : W0.heap.size = w.heap.size + 5 := by rw [← hW0]; simp
  have bM : Blk W0 w.heap.size 26 #[.int .u16 st, .bool ls, .int .u32 mid, .int .u32 pp, .slice (some ad) bs.length c] := by rw [← hW0]; exact ((((Blk.new w _ _).alloc _).alloc _).alloc _).alloc _
  have bI : Boxed W0 (w.heap.size + 1) 4 (.bool inter) := by
    have := Boxed.new (w.alloc (.cells #[.int .u16 st, .bool ls, .int .u32 mid, .int .u32 pp, .slice (some ad) bs.length c] 26)) 4 (.bool inter)
    rw [World.size_alloc] at this
    rw [← hW0]; exact ((this.alloc _).alloc _).alloc _
  have bO : Boxed W0 (w.heap.size + 1 + 1) 28 (.slice none 0 0) := by
    have := Boxed.new ((w.alloc (.cells #[.int .u16 st, .bool ls, .int .u32 mid, .int .u32 pp, .slice (some ad) bs.length c] 26)).alloc (.cells #[.bool inter] 4)) 28 (.slice none 0 0)
    rw [World.size_alloc, World.size_alloc] at this
    rw [← hW0]; exact (this.alloc _).alloc _
  have b1 : Boxed W0 (w.heap.size + 1 + 1 + 1) 24 (.slice (some ad) bs.length c) := by
    have := Boxed.new (((w.alloc (.cells #[.int .u16 st, .bool ls, .int .u32 mid, .int .u32 pp, .slice (some ad) bs.length c] 26)).alloc (.cells #[.bool inter] 4)).alloc (.cells #[.slice none 0 0] 28)) 24 (.slice (some ad) bs.length c)
    rw [World.size_alloc, World.size_alloc, World.size_alloc] at this
    rw [← hW0]; exact this.alloc _
  have b2 : Boxed W0 (w.heap.size + 1 + 1 + 1 + 1) 3 (.int .i64 m) := by
    have := Boxed.new ((((w.alloc (.cells #[.int .u16 st, .bool ls, .int .u32 mid, .int .u32 pp, .slice (some ad) bs.length c] 26)).alloc (.cells #[.bool inter] 4)).alloc (.cells #[.slice none 0 0] 28)).alloc (.cells #[.slice (some ad) bs.length c] 24)) 3 (.int .i64 m)
    rw [World.size_alloc, World.size_alloc, World.size_alloc, World.size_alloc] at this
    rw [← hW0]; exact this
  have hB0 : Below w.heap.size w W0 := by rw [← hW0]; exact (((((Below.refl _ w).alloc (Nat.le_refl _) _).alloc (by simp) _).alloc (by simp; omega) _).alloc (by simp; omega) _).alloc (by simp; omega) _
  rw [hW0]
  have hm2 : m ≤ 1172 := by unfold room at hm1; split at hm1 <;> omega
  have hcm : c ≤ 9223372036854775807 := by have := hc.2; unfold maxLen at this; omega
  refine wpIn_rangeFunc_ownG rfl (by omega) (gf := 25) (lb := #[.pointer (some ⟨w.heap.size + 1 + 1 + 1, 0, none⟩), .pointer (some ⟨w.heap.size + 1 + 1 + 1 + 1, 0, none⟩)]) rfl trivial (enters_of Try.func25 (by kernel_rfl) rfl)
    (chunk_stops Fence.wide 2 trivial rfl (by omega) (w.heap.size + 1 + 1 + 1) (w.heap.size + 1 + 1 + 1 + 1) w.heap.size ad bs.length c m hm0 (by omega) hc.1 hcm (by omega) hn0 W0 (by omega) (by omega) b1.cell b2.cell)
    kp_t (fun W l o o' => kp_b (by omega) (by omega) (by omega) W l o o') (Below.refl _ _) (fun _ => rfl)
    (fun pre W => (∃ v, Boxed W (w.heap.size + 1 + 1) 28 v ∧ OwnCk W W0.heap.size v (rawL st ls mid pp inter bs m (nums pre)) ∧ Blk W w.heap.size 26 #[.int .u16 st, .bool ls, .int .u32 mid, .int .u32 pp, .slice (some ad) bs.length c] ∧ Boxed W (w.heap.size + 1) 4 (.bool inter)) ∧ Below w.heap.size w W ∧ W0.heap.size ≤ W.heap.size)
    (fun _ _ _ => False) ?own (fun _ _ _ _ _ hs _ _ => hs) ?start
    (fun x => { tmps := #[.agg #[.int .u16 st, .bool ls, .int .u32 mid, .int .u32 pp, .slice (some ad) bs.length c], .int .i64 m, .bool inter, .pointer (some ⟨w.heap.size, 0, none⟩), undef, .pointer (some ⟨w.heap.size + 1, 0, none⟩), .slice none 0 0, .int .i64 0, .pointer (some ⟨w.heap.size + 1 + 1, 0, none⟩), .slice (pAt ad (x.1 * m)) (pLen m bs.length x.1) (pLen m bs.length x.1), undef, .bool false, .int .i64 m, .bool false, .bool false, .int .i64 m, .bool inter, .int .i64 (room inter), .bool false, .bool false, .bool false, .pointer (some ⟨w.heap.size, 4, none⟩), .slice (some ad) bs.length c, .int .i64 bs.length, .bool false, .bool false, .pointer (some ⟨w.heap.size, 4, none⟩), .slice (some ad) bs.length c, .int .i64 bs.length, .bool false, .pointer (some ⟨w.heap.size, 4, none⟩), .slice (some ad) bs.length c, .int .i64 m, .func (.func 25) #[] #[.pointer (some ⟨w.heap.size + 1 + 1 + 1, 0, none⟩), .pointer (some ⟨w.heap.size + 1 + 1 + 1 + 1, 0, none⟩)], .slice (pAt ad (x.1 * m)) (pLen m bs.length x.1) (pLen m bs.length x.1), undef, undef, undef, undef, undef, undef, undef, undef, undef, undef, undef, undef, undef, undef, undef, undef, undef, undef, undef, undef, undef, undef, undef, undef, undef, undef, undef, undef, undef, undef, undef, undef, undef, undef, undef], defers := [] }) ?assign ?body ?done ?stop
  case own =>
    rintro s A B row ⟨⟨v, h1, h2, h3, h4⟩, h5, h6⟩ hg hr
    refine ⟨⟨v, h1.kept hg (fun e => ?_), h2.grown hg (fun r e => (hr r e).2), (hg.block _ h3.lt (fun e => ?_)).trans h3, h4.kept hg (fun e => ?_)⟩, h5.grown hg h5.size (fun k e => ?_), Nat.le_trans h6 hg.size⟩
    · have := (hr _ e.symm).1; omega
    · have := (hr _ e.symm).1; omega
    · have := (hr _ e.symm).1; omega
    · have := (hr _ e).1; omega
  case start => exact ⟨⟨_, bO, OwnCk.nil _ _, bM, bI⟩, hB0, Nat.le_refl _⟩
  case assign =>
    intro l x W K hK
    simp only [encP]
    gi_wp2
    exact hK
  case body =>
    rintro l pre x W ⟨⟨v, hv, hO, hM, hI⟩, hB, hW9⟩ hlt
    obtain ⟨body, hbody⟩ : ∃ body, (bs.drop (x.1 * m)).take m = body := ⟨_, rfl⟩
    have hPx : SlB W lo hi (.slice (pAt ad (x.1 * m)) (pLen m bs.length x.1) (pLen m bs.length x.1)) body := by
      rw [← hbody]
      exact piece_sl x (SlB.bl h hB hhi)
    have hbl : body.length ≤ 140737488355328 := by rw [← hbody, List.length_take]; omega
    gi_wp2
    rename_i K9 hK9
    refine Go.wpIn_mono (Q := fun e a W9 => e = .normal ∧ ∃ (y35 y36 y37 y38 y39 y40 y41 y42 y43 y44 y45 y46 : Value) (g : Nat), a = { tmps := #[.agg #[.int .u16 st, .bool ls, .int .u32 mid, .int .u32 pp, .slice (some ad) bs.length c], .int .i64 m, .bool inter, .pointer (some ⟨w.heap.size, 0, none⟩), undef, .pointer (some ⟨w.heap.size + 1, 0, none⟩), .slice none 0 0, .int .i64 0, .pointer (some ⟨w.heap.size + 1 + 1, 0, none⟩), .slice (pAt ad (x.1 * m)) (pLen m bs.length x.1) (pLen m bs.length x.1), .pointer (some ⟨g, 0, none⟩), .bool false, .int .i64 m, .bool false, .bool false, .int .i64 m, .bool inter, .int .i64 (room inter), .bool false, .bool false, .bool false, .pointer (some ⟨w.heap.size, 4, none⟩), .slice (some ad) bs.length c, .int .i64 bs.length, .bool false, .bool false, .pointer (some ⟨w.heap.size, 4, none⟩), .slice (some ad) bs.length c, .int .i64 bs.length, .bool false, .pointer (some ⟨w.heap.size, 4, none⟩), .slice (some ad) bs.length c, .int .i64 m, .func (.func 25) #[] #[.pointer (some ⟨w.heap.size + 1 + 1 + 1, 0, none⟩), .pointer (some ⟨w.heap.size + 1 + 1 + 1 + 1, 0, none⟩)], .slice (pAt ad (x.1 * m)) (pLen m bs.length x.1) (pLen m bs.length x.1), y35, y36, y37, y38, y39, y40, y41, y42, y43, y44, y45, y46, undef, undef, undef, undef, undef, undef, undef, undef, undef, undef, undef, undef, undef, undef, undef, undef, undef, undef, undef, undef, undef, undef, undef], defers := [] } ∧ Fr nothing W W9 ∧ W.heap.size ≤ g ∧ OwnB W9 W.heap.size 5 y45 body ∧ Blk W9 g 42 #[.int .u8 (0), .bool false, .bool false, .bool ls, .bool false, .int .u32 0, .int .u16 st, .int .u32 (bits .and .u32 mid 65535), .int .u32 pp, .int .u32 (0), .int .u32 0, .int .u32 0, .int .u16 0, .int .u16 0, .slice none 0 0, .slice none 0 0, .slice none 0 0, .slice none 0 0, y45]) ?reg ?rest
    case reg =>
      refine Reg.region_in l (by kernel_rfl) (by kernel_rfl) (I := fun listed act wq => ∃ (c0 c1 c2 c3 c4 c5 c6 c7 c8 c9 c10 c11 c12 c13 : Bool) (y35 y36 y37 y38 y39 y40 y41 y42 y43 y44 y45 y46 y10 : Value) (g : Nat), listed = #[c0, c1, c2, c3, c4, c5, c6, c7, c8, c9, c10, c11, c12, c13] ∧ act = { tmps := #[.agg #[.int .u16 st, .bool ls, .int .u32 mid, .int .u32 pp, .slice (some ad) bs.length c], .int .i64 m, .bool inter, .pointer (some ⟨w.heap.size, 0, none⟩), undef, .pointer (some ⟨w.heap.size + 1, 0, none⟩), .slice none 0 0, .int .i64 0, .pointer (some ⟨w.heap.size + 1 + 1, 0, none⟩), .slice (pAt ad (x.1 * m)) (pLen m bs.length x.1) (pLen m bs.length x.1), y10, .bool false, .int .i64 m, .bool false, .bool false, .int .i64 m, .bool inter, .int .i64 (room inter), .bool false, .bool false, .bool false, .pointer (some ⟨w.heap.size, 4, none⟩), .slice (some ad) bs.length c, .int .i64 bs.length, .bool false, .bool false, .pointer (some ⟨w.heap.size, 4, none⟩), .slice (some ad) bs.length c, .int .i64 bs.length, .bool false, .pointer (some ⟨w.heap.size, 4, none⟩), .slice (some ad) bs.length c, .int .i64 m, .func (.func 25) #[] #[.pointer (some ⟨w.heap.size + 1 + 1 + 1, 0, none⟩), .pointer (some ⟨w.heap.size + 1 + 1 + 1 + 1, 0, none⟩)], .slice (pAt ad (x.1 * m)) (pLen m bs.length x.1) (pLen m bs.length x.1), y35, y36, y37, y38, y39, y40, y41, y42, y43, y44, y45, y46, undef, undef, undef, undef, undef, undef, undef, undef, undef, undef, undef, undef, undef, undef, undef, undef, undef, undef, undef, undef, undef, undef, undef], defers := [] } ∧ Fr nothing W wq ∧ (c0 = true → y35 = .pointer (some ⟨w.heap.size, 1, none⟩)) ∧ (c1 = true → y36 = .bool ls) ∧ (c2 = true → y37 = .pointer (some ⟨w.heap.size, 0, none⟩)) ∧ (c3 = true → y38 = .int .u16 st) ∧ (c4 = true → y39 = .pointer (some ⟨w.heap.size, 2, none⟩)) ∧ (c5 = true → y40 = .int .u32 mid) ∧ (c6 = true → y41 = .int .u32 (bits .and .u32 mid 65535)) ∧ (c7 = true → y42 = .pointer (some ⟨w.heap.size, 3, none⟩)) ∧ (c8 = true → y43 = .int .u32 pp) ∧ (c9 = true → y44 = .slice (pAt ad (x.1 * m)) (pLen m bs.length x.1) (pLen m bs.length x.1)) ∧ (c10 = true → OwnB wq W.heap.size 5 y45 body) ∧ (c11 = true → y46 = .agg #[.int .u8 (0), .bool false, .bool false, .bool ls, .bool false, .int .u32 0, .int .u16 st, .int .u32 (bits .and .u32 mid 65535), .int .u32 pp, .int .u32 (0), .int .u32 0, .int .u32 0, .int .u16 0, .int .u16 0, .slice none 0 0, .slice none 0 0, .slice none 0 0, .slice none 0 0, y45]) ∧ (c12 = true → y10 = .pointer (some ⟨g, 0, none⟩) ∧ W.heap.size ≤ g ∧ Blk wq g 42 (if c13 then #[.int .u8 (0), .bool false, .bool false, .bool ls, .bool false, .int .u32 0, .int .u16 st, .int .u32 (bits .and .u32 mid 65535), .int .u32 pp, .int .u32 (0), .int .u32 0, .int .u32 0, .int .u16 0, .int .u16 0, .slice none 0 0, .slice none 0 0, .slice none 0 0, .slice none 0 0, y45] else #[.int .u8 0, .bool false, .bool false, .bool false, .bool false, .int .u32 0, .int .u16 0, .int .u32 0, .int .u32 0, .int .u32 0, .int .u32 0, .int .u32 0, .int .u16 0, .int .u16 0, .slice none 0 0, .slice none 0 0, .slice none 0 0, .slice none 0 0, .slice none 0 0])) ∧ (c13 = true → c12 = true ∧ c11 = true) ∧ (c11 = true → c10 = true)) ?step ?fin ?st0
      case st0 => exact ⟨false, false, false, false, false, false, false, false, false, false, false, false, false, false, _, _, _, _, _, _, _, _, _, _, _, _, _, 0, rfl, rfl, (Fr.refl _ _).drew, (fun h => by cases h), (fun h => by cases h), (fun h => by cases h), (fun h => by cases h), (fun h => by cases h), (fun h => by cases h), (fun h => by cases h), (fun h => by cases h), (fun h => by cases h), (fun h => by cases h), (fun h => by cases h), (fun h => by cases h), (fun h => by cases h), (fun h => by cases h), (fun h => by cases h)⟩
      case fin =>
        rintro listed act wq ⟨c0, c1, c2, c3, c4, c5, c6, c7, c8, c9, c10, c11, c12, c13, y35, y36, y37, y38, y39, y40, y41, y42, y43, y44, y45, y46, y10, g, rfl, rfl, FW, F0, F1, F2, F3, F4, F5, F6, F7, F8, F9, FO, FA, FG, FI, FJ⟩ hr
        have hall := Reg.all_of_done (by kernel_rfl) rfl hr
        have e12 := hall 12 (by decide)
        have e13 := hall 13 (by decide)
        simp at e12 e13
        subst e12; subst e13
        obtain ⟨e10, hg, hb⟩ := FG rfl
        subst e10
        exact ⟨rfl, _, _, _, _, _, _, _, _, _, _, _, _, g, rfl, FW, hg, FO (FJ (FI rfl).2), hb⟩
      case step =>
        intro i o listed act wq hi hI hun hdeps K hK
        obtain ⟨c0, c1, c2, c3, c4, c5, c6, c7, c8, c9, c10, c11, c12, c13, y35, y36, y37, y38, y39, y40, y41, y42, y43, y44, y45, y46, y10, g, rfl, rfl, FW, F0, F1, F2, F3, F4, F5, F6, F7, F8, F9, FO, FA, FG, FI, FJ⟩ := hI
        have hlt9 : i < 14 := (Array.getElem?_eq_some_iff.1 hi).1
        rcases (show i = 0 ∨ i = 1 ∨ i = 2 ∨ i = 3 ∨ i = 4 ∨ i = 5 ∨ i = 6 ∨ i = 7 ∨ i = 8 ∨ i = 9 ∨ i = 10 ∨ i = 11 ∨ i = 12 ∨ i = 13 by omega) with rfl | rfl | rfl | rfl | rfl | rfl | rfl | rfl | rfl | rfl | rfl | rfl | rfl | rfl
        · skip
          obtain rfl : _ = o := Option.some.inj hi
          obtain rfl : c0 = false := by simpa using hun
          clear hun hdeps hi
          go_simp
          exact hK _ _ ⟨true, c1, c2, c3, c4, c5, c6, c7, c8, c9, c10, c11, c12, c13, _, _, _, _, _, _, _, _, _, _, _, _, _, _, rfl, rfl, FW, fun _ => rfl, F1, F2, F3, F4, F5, F6, F7, F8, F9, FO, FA, FG, FI, FJ⟩
        · skip
          obtain rfl : _ = o := Option.some.inj hi
          obtain rfl : c1 = false := by simpa using hun
          obtain rfl : c0 = true := hdeps _ (Array.mem_of_getElem? (i := 0) rfl) rfl
          clear hun hdeps hi
          have e0 := F0 rfl
          subst e0
          have cq := (Blk.fr hM FW id).cell 1
          simp at cq
          go_simp
          exact hK _ _ ⟨true, true, c2, c3, c4, c5, c6, c7, c8, c9, c10, c11, c12, c13, _, _, _, _, _, _, _, _, _, _, _, _, _, _, rfl, rfl, FW, fun _ => rfl, fun _ => rfl, F2, F3, F4, F5, F6, F7, F8, F9, FO, FA, FG, FI, FJ⟩
        · skip
          obtain rfl : _ = o := Option.some.inj hi
          obtain rfl : c2 = false := by simpa using hun
          clear hun hdeps hi
          go_simp
          exact hK _ _ ⟨c0, c1, true, c3, c4, c5, c6, c7, c8, c9, c10, c11, c12, c13, _, _, _, _, _, _, _, _, _, _, _, _, _, _, rfl, rfl, FW, F0, F1, fun _ => rfl, F3, F4, F5, F6, F7, F8, F9, FO, FA, FG, FI, FJ⟩
        · skip
          obtain rfl : _ = o := Option.some.inj hi
          obtain rfl : c3 = false := by simpa using hun
          obtain rfl : c2 = true := hdeps _ (Array.mem_of_getElem? (i := 0) rfl) rfl
          clear hun hdeps hi
          have e2 := F2 rfl
          subst e2
          have cq := (Blk.fr hM FW id).cell 0
          simp at cq
          go_simp
          exact hK _ _ ⟨c0, c1, true, true, c4, c5, c6, c7, c8, c9, c10, c11, c12, c13, _, _, _, _, _, _, _, _, _, _, _, _, _, _, rfl, rfl, FW, F0, F1, fun _ => rfl, fun _ => rfl, F4, F5, F6, F7, F8, F9, FO, FA, FG, FI, FJ⟩
        · skip
          obtain rfl : _ = o := Option.some.inj hi
          obtain rfl : c4 = false := by simpa using hun
          clear hun hdeps hi
          go_simp
          exact hK _ _ ⟨c0, c1, c2, c3, true, c5, c6, c7, c8, c9, c10, c11, c12, c13, _, _, _, _, _, _, _, _, _, _, _, _, _, _, rfl, rfl, FW, F0, F1, F2, F3, fun _ => rfl, F5, F6, F7, F8, F9, FO, FA, FG, FI, FJ⟩
        · skip
          obtain rfl : _ = o := Option.some.inj hi
          obtain rfl : c5 = false := by simpa using hun
          obtain rfl : c4 = true := hdeps _ (Array.mem_of_getElem? (i := 0) rfl) rfl
          clear hun hdeps hi
          have e4 := F4 rfl
          subst e4
          have cq := (Blk.fr hM FW id).cell 2
          simp at cq
          go_simp
          exact hK _ _ ⟨c0, c1, c2, c3, true, true, c6, c7, c8, c9, c10, c11, c12, c13, _, _, _, _, _, _, _, _, _, _, _, _, _, _, rfl, rfl, FW, F0, F1, F2, F3, fun _ => rfl, fun _ => rfl, F6, F7, F8, F9, FO, FA, FG, FI, FJ⟩
        · skip
          obtain rfl : _ = o := Option.some.inj hi
          obtain rfl : c6 = false := by simpa using hun
          obtain rfl : c5 = true := hdeps _ (Array.mem_of_getElem? (i := 0) rfl) rfl
          clear hun hdeps hi
          have e5 := F5 rfl
          subst e5
          go_simp
          exact hK _ _ ⟨c0, c1, c2, c3, c4, true, true, c7, c8, c9, c10, c11, c12, c13, _, _, _, _, _, _, _, _, _, _, _, _, _, _, rfl, rfl, FW, F0, F1, F2, F3, F4, fun _ => rfl, fun _ => rfl, F7, F8, F9, FO, FA, FG, FI, FJ⟩
        · skip
          obtain rfl : _ = o := Option.some.inj hi
          obtain rfl : c7 = false := by simpa using hun
          clear hun hdeps hi
          go_simp
          exact hK _ _ ⟨c0, c1, c2, c3, c4, c5, c6, true, c8, c9, c10, c11, c12, c13, _, _, _, _, _, _, _, _, _, _, _, _, _, _, rfl, rfl, FW, F0, F1, F2, F3, F4, F5, F6, fun _ => rfl, F8, F9, FO, FA, FG, FI, FJ⟩
        · skip
          obtain rfl : _ = o := Option.some.inj hi
          obtain rfl : c8 = false := by simpa using hun
          obtain rfl : c7 = true := hdeps _ (Array.mem_of_getElem? (i := 0) rfl) rfl
          clear hun hdeps hi
          have e7 := F7 rfl
          subst e7
          have cq := (Blk.fr hM FW id).cell 3
          simp at cq
          go_simp
          exact hK _ _ ⟨c0, c1, c2, c3, c4, c5, c6, true, true, c9, c10, c11, c12, c13, _, _, _, _, _, _, _, _, _, _, _, _, _, _, rfl, rfl, FW, F0, F1, F2, F3, F4, F5, F6, fun _ => rfl, fun _ => rfl, F9, FO, FA, FG, FI, FJ⟩
        · skip
          obtain rfl : _ = o := Option.some.inj hi
          obtain rfl : c9 = false := by simpa using hun
          clear hun hdeps hi
          go_simp
          exact hK _ _ ⟨c0, c1, c2, c3, c4, c5, c6, c7, c8, true, c10, c11, c12, c13, _, _, _, _, _, _, _, _, _, _, _, _, _, _, rfl, rfl, FW, F0, F1, F2, F3, F4, F5, F6, F7, F8, fun _ => rfl, FO, FA, FG, FI, FJ⟩
        · skip
          obtain rfl : _ = o := Option.some.inj hi
          obtain rfl : c10 = false := by simpa using hun
          obtain rfl : c9 = true := hdeps _ (Array.mem_of_getElem? (i := 0) rfl) rfl
          clear hun hdeps hi
          have e9 := F9 rfl
          subst e9
          have HC := Lib.hid (clone_calls _ _ _ body wq (SlB.fr hPx FW (fun _ _ _ h => h)) (by omega))
          go_simp
          go_at_call 15
          refine HC.out.mono ?_
          rintro e w' ⟨v', rfl, o1, Bc⟩
          go_simp
          have fb := Fr.of_below (S := nothing) Bc
          have FW2 := FW.trans fb (fun _ _ h => h)
          exact hK _ _ ⟨c0, c1, c2, c3, c4, c5, c6, c7, c8, true, true, c11, c12, c13, _, _, _, _, _, _, _, _, _, _, _, _, _, _, rfl, rfl, FW2, F0, F1, F2, F3, F4, F5, F6, F7, F8, F9, fun _ => OwnB.low o1 FW.size, (fun h => by have := FJ h; cases this), (fun h => ⟨(FG h).1, (FG h).2.1, by have hb := Blk.fr (FG h).2.2 fb id; have h13 : c13 = false := Bool.eq_false_iff.2 (fun hc => absurd (FJ (FI hc).2) (by simp)); subst h13; exact hb⟩), FI, fun _ => rfl⟩
        · skip
          obtain rfl : _ = o := Option.some.inj hi
          obtain rfl : c11 = false := by simpa using hun
          obtain rfl : c1 = true := hdeps _ (Array.mem_of_getElem? (i := 0) rfl) rfl
          obtain rfl : c3 = true := hdeps _ (Array.mem_of_getElem? (i := 1) rfl) rfl
          obtain rfl : c6 = true := hdeps _ (Array.mem_of_getElem? (i := 2) rfl) rfl
          obtain rfl : c8 = true := hdeps _ (Array.mem_of_getElem? (i := 3) rfl) rfl
          obtain rfl : c10 = true := hdeps _ (Array.mem_of_getElem? (i := 4) rfl) rfl
          clear hun hdeps hi
          have e1 := F1 rfl
          subst e1
          have e3 := F3 rfl
          subst e3
          have e6 := F6 rfl
          subst e6
          have e8 := F8 rfl
          subst e8
          obtain ⟨Ay, cy, e5, -, -⟩ := OwnB.slice (FO rfl)
          subst e5
          go_simp
          exact hK _ _ ⟨c0, true, c2, true, c4, c5, true, c7, true, c9, true, true, c12, c13, _, _, _, _, _, _, _, _, _, _, _, _, _, _, rfl, rfl, FW, F0, F1, F2, F3, F4, F5, F6, F7, F8, F9, FO, fun _ => rfl, fun h => FG h, fun h => ⟨(FI h).1, rfl⟩, fun _ => rfl⟩
        · skip
          obtain rfl : _ = o := Option.some.inj hi
          obtain rfl : c12 = false := by simpa using hun
          clear hun hdeps hi
          have h13 : c13 = false := Bool.eq_false_iff.2 (fun hc => absurd (FI hc).1 (by simp))
          subst h13
          go_simp
          exact hK _ _ ⟨c0, c1, c2, c3, c4, c5, c6, c7, c8, c9, c10, c11, true, false, _, _, _, _, _, _, _, _, _, _, _, _, _, _, rfl, rfl, FW.alloc _, F0, F1, F2, F3, F4, F5, F6, F7, F8, F9, fun h => OwnB.fr (FO h) (S := nothing) ((Fr.refl _ wq).alloc _) (fun _ _ h => h), FA, fun _ => ⟨rfl, FW.size, Blk.new wq _ _⟩, (fun h => by cases h), FJ⟩
        · skip
          obtain rfl : _ = o := Option.some.inj hi
          obtain rfl : c13 = false := by simpa using hun
          obtain rfl : c12 = true := hdeps _ (Array.mem_of_getElem? (i := 0) rfl) rfl
          obtain rfl : c11 = true := hdeps _ (Array.mem_of_getElem? (i := 1) rfl) rfl
          clear hun hdeps hi
          obtain ⟨e10, hg, hb⟩ := FG rfl
          subst e10
          have e11 := FA rfl
          subst e11
          simp only [Bool.false_eq_true, if_false] at hb
          obtain ⟨Ay, cy, e5, -, -⟩ := OwnB.slice (FO (FJ rfl))
          subst e5
          rw [if_pos (show Region.wanted _ _ = true from rfl)]
          refine oper_store rfl rfl rfl hb (by kernel_rfl) rfl (by simp [Value.oneCell']) ?_
          have FW2 := FW.trans (fr_row g #[.int .u8 (0), .bool false, .bool false, .bool ls, .bool false, .int .u32 0, .int .u16 st, .int .u32 (bits .and .u32 mid 65535), .int .u32 pp, .int .u32 (0), .int .u32 0, .int .u32 0, .int .u16 0, .int .u16 0, .slice none 0 0, .slice none 0 0, .slice none 0 0, .slice none 0 0, .slice Ay body.length cy]) (fun k hk h => by have h9 : k = g := h; omega)
          exact hK _ _ ⟨c0, c1, c2, c3, c4, c5, c6, c7, c8, c9, c10, true, true, true, _, _, _, _, _, _, _, _, _, _, _, _, _, g, rfl, rfl, FW2, F0, F1, F2, F3, F4, F5, F6, F7, F8, F9, (fun h => OwnB.fr (FO h) (fr_row g _) (fun k h1 h2 => by have h9 : k = g := h2; exact OwnB.ne (FO h) hb (by decide) (h9 ▸ h1))), fun _ => rfl, fun _ => ⟨rfl, hg, blk_row _ hb⟩, fun _ => ⟨rfl, rfl⟩, FJ⟩
    case rest =>
      rintro e a W9 ⟨rfl, y35, y36, y37, y38, y39, y40, y41, y42, y43, y44, y45, y46, g, rfl, FW, hg, o45, bG⟩
      refine hK9 _ _ ?_
      have hlenp : (rawL st ls mid pp inter bs m (nums pre)).length = pre.length := by simp [rawL, nums]
      obtain ⟨Av, cv, ev⟩ := hO.shape
      rw [hlenp] at ev
      subst ev
      obtain ⟨Ay, cy, ey, -, -⟩ := OwnB.slice o45
      subst ey
      have hM9 := Blk.fr hM FW id
      have hI9 : Boxed W9 (w.heap.size + 1) 4 (.bool inter) := (FW.block _ hI.lt id).trans hI
      have hv9 : Boxed W9 (w.heap.size + 1 + 1) 28 (.slice Av pre.length cv) := (FW.block _ hv.lt id).trans hv
      have cI := hI9.cell
      have hup := Try.underlying42
      obtain ⟨i0, hi0, hz0, hz1, hz2⟩ := info_parts info_c
      have hpn : pre.length ≤ 70000 := by have := Nat.div_le_self (bs.length + m - 1) m; omega
      have hw32 : IntKind.u32.wrap (pre.length : Int) = pre.length := by rw [IntKind.wrap_u32]; omega
      refine wpIn_seq (Go.wpIn_mono (Q := fun e a W8 => e = .normal ∧ ∃ (z48 z49 z50 z51 z52 z53 z54 z55 : Value), a = { tmps := #[.agg #[.int .u16 st, .bool ls, .int .u32 mid, .int .u32 pp, .slice (some ad) bs.length c], .int .i64 m, .bool inter, .pointer (some ⟨w.heap.size, 0, none⟩), undef, .pointer (some ⟨w.heap.size + 1, 0, none⟩), .slice none 0 0, .int .i64 0, .pointer (some ⟨w.heap.size + 1 + 1, 0, none⟩), .slice (pAt ad (x.1 * m)) (pLen m bs.length x.1) (pLen m bs.length x.1), .pointer (some ⟨g, 0, none⟩), .bool false, .int .i64 m, .bool false, .bool false, .int .i64 m, .bool inter, .int .i64 (room inter), .bool false, .bool false, .bool false, .pointer (some ⟨w.heap.size, 4, none⟩), .slice (some ad) bs.length c, .int .i64 bs.length, .bool false, .bool false, .pointer (some ⟨w.heap.size, 4, none⟩), .slice (some ad) bs.length c, .int .i64 bs.length, .bool false, .pointer (some ⟨w.heap.size, 4, none⟩), .slice (some ad) bs.length c, .int .i64 m, .func (.func 25) #[] #[.pointer (some ⟨w.heap.size + 1 + 1 + 1, 0, none⟩), .pointer (some ⟨w.heap.size + 1 + 1 + 1 + 1, 0, none⟩)], .slice (pAt ad (x.1 * m)) (pLen m bs.length x.1) (pLen m bs.length x.1), y35, y36, y37, y38, y39, y40, y41, y42, y43, y44, .slice Ay body.length cy, y46, .bool inter, z48, z49, z50, z51, z52, z53, z54, z55, undef, undef, undef, undef, undef, undef, undef, undef, undef, undef, undef, undef, undef, undef], defers := [] } ∧ Fr (only g) W9 W8 ∧ Blk W8 g 42 #[.int .u8 (if inter then 64 else 0), .bool false, .bool false, .bool ls, .bool false, .int .u32 0, .int .u16 st, .int .u32 (if inter then mid else bits .and .u32 mid 65535), .int .u32 pp, .int .u32 (if inter then (pre.length : Int) else 0), .int .u32 0, .int .u32 0, .int .u16 0, .int .u16 0, .slice none 0 0, .slice none 0 0, .slice none 0 0, .slice none 0 0, .slice Ay body.length cy]) ?c1 ?c2)
      case c1 =>
        cases inter with
        | true =>
          gi_wp2
          refine Go.wpIn_mono (Q := fun e a W8 => e = .normal ∧ ∃ (z48 z49 z50 z51 z52 z53 z54 z55 : Value), a = { tmps := #[.agg #[.int .u16 st, .bool ls, .int .u32 mid, .int .u32 pp, .slice (some ad) bs.length c], .int .i64 m, .bool true, .pointer (some ⟨w.heap.size, 0, none⟩), undef, .pointer (some ⟨w.heap.size + 1, 0, none⟩), .slice none 0 0, .int .i64 0, .pointer (some ⟨w.heap.size + 1 + 1, 0, none⟩), .slice (pAt ad (x.1 * m)) (pLen m bs.length x.1) (pLen m bs.length x.1), .pointer (some ⟨g, 0, none⟩), .bool false, .int .i64 m, .bool false, .bool false, .int .i64 m, .bool true, .int .i64 (room true), .bool false, .bool false, .bool false, .pointer (some ⟨w.heap.size, 4, none⟩), .slice (some ad) bs.length c, .int .i64 bs.length, .bool false, .bool false, .pointer (some ⟨w.heap.size, 4, none⟩), .slice (some ad) bs.length c, .int .i64 bs.length, .bool false, .pointer (some ⟨w.heap.size, 4, none⟩), .slice (some ad) bs.length c, .int .i64 m, .func (.func 25) #[] #[.pointer (some ⟨w.heap.size + 1 + 1 + 1, 0, none⟩), .pointer (some ⟨w.heap.size + 1 + 1 + 1 + 1, 0, none⟩)], .slice (pAt ad (x.1 * m)) (pLen m bs.length x.1) (pLen m bs.length x.1), y35, y36, y37, y38, y39, y40, y41, y42, y43, y44, .slice Ay body.length cy, y46, .bool true, z48, z49, z50, z51, z52, z53, z54, z55, undef, undef, undef, undef, undef, undef, undef, undef, undef, undef, undef, undef, undef, undef], defers := [] } ∧ Fr (only g) W9 W8 ∧ Blk W8 g 42 #[.int .u8 (64), .bool false, .bool false, .bool ls, .bool false, .int .u32 0, .int .u16 st, .int .u32 (mid), .int .u32 pp, .int .u32 (pre.length), .int .u32 0, .int .u32 0, .int .u16 0, .int .u16 0, .slice none 0 0, .slice none 0 0, .slice none 0 0, .slice none 0 0, .slice Ay body.length cy]) ?reg2 ?rest2
          case reg2 =>
            refine Reg.region_in l (by kernel_rfl) (by kernel_rfl) (I := fun listed act wq => ∃ (d0 d1 d2 d3 d4 d5 d6 d7 d8 d9 d10 : Bool) (z48 z49 z50 z51 z52 z53 z54 z55 : Value), listed = #[d0, d1, d2, d3, d4, d5, d6, d7, d8, d9, d10] ∧ act = { tmps := #[.agg #[.int .u16 st, .bool ls, .int .u32 mid, .int .u32 pp, .slice (some ad) bs.length c], .int .i64 m, .bool true, .pointer (some ⟨w.heap.size, 0, none⟩), undef, .pointer (some ⟨w.heap.size + 1, 0, none⟩), .slice none 0 0, .int .i64 0, .pointer (some ⟨w.heap.size + 1 + 1, 0, none⟩), .slice (pAt ad (x.1 * m)) (pLen m bs.length x.1) (pLen m bs.length x.1), .pointer (some ⟨g, 0, none⟩), .bool false, .int .i64 m, .bool false, .bool false, .int .i64 m, .bool true, .int .i64 (room true), .bool false, .bool false, .bool false, .pointer (some ⟨w.heap.size, 4, none⟩), .slice (some ad) bs.length c, .int .i64 bs.length, .bool false, .bool false, .pointer (some ⟨w.heap.size, 4, none⟩), .slice (some ad) bs.length c, .int .i64 bs.length, .bool false, .pointer (some ⟨w.heap.size, 4, none⟩), .slice (some ad) bs.length c, .int .i64 m, .func (.func 25) #[] #[.pointer (some ⟨w.heap.size + 1 + 1 + 1, 0, none⟩), .pointer (some ⟨w.heap.size + 1 + 1 + 1 + 1, 0, none⟩)], .slice (pAt ad (x.1 * m)) (pLen m bs.length x.1) (pLen m bs.length x.1), y35, y36, y37, y38, y39, y40, y41, y42, y43, y44, .slice Ay body.length cy, y46, .bool true, z48, z49, z50, z51, z52, z53, z54, z55, undef, undef, undef, undef, undef, undef, undef, undef, undef, undef, undef, undef, undef, undef], defers := [] } ∧ Fr (only g) W9 wq ∧ Blk wq g 42 #[.int .u8 (if d6 then 64 else 0), .bool false, .bool false, .bool ls, .bool false, .int .u32 0, .int .u16 st, .int .u32 (if d8 then mid else bits .and .u32 mid 65535), .int .u32 pp, .int .u32 (if d10 then pre.length else 0), .int .u32 0, .int .u32 0, .int .u16 0, .int .u16 0, .slice none 0 0, .slice none 0 0, .slice none 0 0, .slice none 0 0, .slice Ay body.length cy] ∧ (d0 = true → z48 = .pointer (some ⟨w.heap.size, 2, none⟩)) ∧ (d1 = true → z49 = .int .u32 mid) ∧ (d2 = true → z50 = .slice Av pre.length cv) ∧ (d3 = true → z51 = .int .i64 pre.length) ∧ (d4 = true → z52 = .int .u32 pre.length) ∧ (d5 = true → z53 = .pointer (some ⟨g, 0, none⟩)) ∧ (d7 = true → z54 = .pointer (some ⟨g, 7, none⟩)) ∧ (d9 = true → z55 = .pointer (some ⟨g, 9, none⟩))) ?step2 ?fin2 ?st2
            case st2 => exact ⟨false, false, false, false, false, false, false, false, false, false, false, _, _, _, _, _, _, _, _, rfl, rfl, (Fr.refl _ _).drew, bG, (fun h => by cases h), (fun h => by cases h), (fun h => by cases h), (fun h => by cases h), (fun h => by cases h), (fun h => by cases h), (fun h => by cases h), (fun h => by cases h)⟩
            case fin2 =>
              rintro listed act wq ⟨d0, d1, d2, d3, d4, d5, d6, d7, d8, d9, d10, z48, z49, z50, z51, z52, z53, z54, z55, rfl, rfl, FQ, GB, G0, G1, G2, G3, G4, G5, G7, G9⟩ hr
              have hall := Reg.all_of_done (by kernel_rfl) rfl hr
              have e6 := hall 6 (by decide)
              have e8 := hall 8 (by decide)
              have e10 := hall 10 (by decide)
              simp at e6 e8 e10
              subst e6; subst e8; subst e10
              exact ⟨rfl, _, _, _, _, _, _, _, _, rfl, FQ, GB⟩
            case step2 =>
            intro i o listed act wq hi hI2 hun hdeps K hK
            obtain ⟨d0, d1, d2, d3, d4, d5, d6, d7, d8, d9, d10, z48, z49, z50, z51, z52, z53, z54, z55, rfl, rfl, FQ, GB, G0, G1, G2, G3, G4, G5, G7, G9⟩ := hI2
            have hlt9 : i < 11 := (Array.getElem?_eq_some_iff.1 hi).1
            rcases (show i = 0 ∨ i = 1 ∨ i = 2 ∨ i = 3 ∨ i = 4 ∨ i = 5 ∨ i = 6 ∨ i = 7 ∨ i = 8 ∨ i = 9 ∨ i = 10 by omega) with rfl | rfl | rfl | rfl | rfl | rfl | rfl | rfl | rfl | rfl | rfl
            · skip
              obtain rfl : _ = o := Option.some.inj hi
              obtain rfl : d0 = false := by simpa using hun
              clear hun hdeps hi
              go_simp
              exact hK _ _ ⟨true, d1, d2, d3, d4, d5, d6, d7, d8, d9, d10, _, _, _, _, _, _, _, _, rfl, rfl, FQ, GB, (fun _ => rfl), G1, G2, G3, G4, G5, G7, G9⟩
            · skip
              obtain rfl : _ = o := Option.some.inj hi
              obtain rfl : d1 = false := by simpa using hun
              obtain rfl : d0 = true := by
                have hd := hdeps
                simp [Region.binds] at hd
                first | exact hd | exact hd.1 | exact hd.2 | exact hd.2.1 | exact hd.2.2 | exact hd.1.1 | simp_all
              clear hun hdeps hi
              have e0 := G0 rfl
              subst e0
              have cq := (Blk.fr hM9 FQ (fun h => by have h9 : w.heap.size = g := h; omega)).cell 2
              simp at cq
              go_simp
              exact hK _ _ ⟨true, true, d2, d3, d4, d5, d6, d7, d8, d9, d10, _, _, _, _, _, _, _, _, rfl, rfl, FQ, GB, G0, (fun _ => rfl), G2, G3, G4, G5, G7, G9⟩
            · skip
              obtain rfl : _ = o := Option.some.inj hi
              obtain rfl : d2 = false := by simpa using hun
              clear hun hdeps hi
              have cq := (show Boxed wq _ _ _ from (FQ.block _ hv9.lt (fun h => by have h9 : w.heap.size + 1 + 1 = g := h; omega)).trans hv9).cell
              go_simp
              exact hK _ _ ⟨d0, d1, true, d3, d4, d5, d6, d7, d8, d9, d10, _, _, _, _, _, _, _, _, rfl, rfl, FQ, GB, G0, G1, (fun _ => rfl), G3, G4, G5, G7, G9⟩
            · skip
              obtain rfl : _ = o := Option.some.inj hi
              obtain rfl : d3 = false := by simpa using hun
              obtain rfl : d2 = true := by
                have hd := hdeps
                simp [Region.binds] at hd
                first | exact hd | exact hd.1 | exact hd.2 | exact hd.2.1 | exact hd.2.2 | exact hd.1.1 | simp_all
              clear hun hdeps hi
              have e2 := G2 rfl
              subst e2
              go_simp
              exact hK _ _ ⟨d0, d1, true, true, d4, d5, d6, d7, d8, d9, d10, _, _, _, _, _, _, _, _, rfl, rfl, FQ, GB, G0, G1, G2, (fun _ => rfl), G4, G5, G7, G9⟩
            · skip
              obtain rfl : _ = o := Option.some.inj hi
              obtain rfl : d4 = false := by simpa using hun
              obtain rfl : d3 = true := by
                have hd := hdeps
                simp [Region.binds] at hd
                first | exact hd | exact hd.1 | exact hd.2 | exact hd.2.1 | exact hd.2.2 | exact hd.1.1 | simp_all
              clear hun hdeps hi
              have e3 := G3 rfl
              subst e3
              go_simp
              exact hK _ _ ⟨d0, d1, d2, true, true, d5, d6, d7, d8, d9, d10, _, _, _, _, _, _, _, _, rfl, rfl, FQ, GB, G0, G1, G2, G3, (fun _ => rfl), G5, G7, G9⟩
            · skip
              obtain rfl : _ = o := Option.some.inj hi
              obtain rfl : d5 = false := by simpa using hun
              clear hun hdeps hi
              go_simp
              exact hK _ _ ⟨d0, d1, d2, d3, d4, true, d6, d7, d8, d9, d10, _, _, _, _, _, _, _, _, rfl, rfl, FQ, GB, G0, G1, G2, G3, G4, (fun _ => rfl), G7, G9⟩
            · skip
              obtain rfl : _ = o := Option.some.inj hi
              obtain rfl : d6 = false := by simpa using hun
              obtain rfl : d5 = true := by
                have hd := hdeps
                simp [Region.binds] at hd
                first | exact hd | exact hd.1 | exact hd.2 | exact hd.2.1 | exact hd.2.2 | exact hd.1.1 | simp_all
              clear hun hdeps hi
              have e5 := G5 rfl
              subst e5
              have cq := GB.cell 0
              have fq := GB.frozen 0
              simp at cq
              go_simp
              exact hK _ _ ⟨d0, d1, d2, d3, d4, true, true, d7, d8, d9, d10, _, _, _, _, _, _, _, _, rfl, rfl, FQ.set_only 0 none (.int .u8 64), (GB.set 0 (.int .u8 64)).cast (by cases d8 <;> cases d10 <;> rfl), G0, G1, G2, G3, G4, G5, G7, G9⟩
            · skip
              obtain rfl : _ = o := Option.some.inj hi
              obtain rfl : d7 = false := by simpa using hun
              clear hun hdeps hi
              go_simp
              exact hK _ _ ⟨d0, d1, d2, d3, d4, d5, d6, true, d8, d9, d10, _, _, _, _, _, _, _, _, rfl, rfl, FQ, GB, G0, G1, G2, G3, G4, G5, (fun _ => rfl), G9⟩
            · skip
              obtain rfl : _ = o := Option.some.inj hi
              obtain rfl : d8 = false := by simpa using hun
              obtain rfl : d7 = true := by
                have hd := hdeps
                simp [Region.binds] at hd
                first | exact hd | exact hd.1 | exact hd.2 | exact hd.2.1 | exact hd.2.2 | exact hd.1.1 | simp_all
              obtain rfl : d1 = true := by
                have hd := hdeps
                simp [Region.binds] at hd
                first | exact hd | exact hd.1 | exact hd.2 | exact hd.2.1 | exact hd.2.2 | exact hd.1.1 | simp_all
              clear hun hdeps hi
              have e7 := G7 rfl
              subst e7
              have e1 := G1 rfl
              subst e1
              have cq := GB.cell 7
              have fq := GB.frozen 7
              simp at cq
              go_simp
              exact hK _ _ ⟨d0, true, d2, d3, d4, d5, d6, true, true, d9, d10, _, _, _, _, _, _, _, _, rfl, rfl, FQ.set_only 7 none (.int .u32 mid), (GB.set 7 (.int .u32 mid)).cast (by cases d6 <;> cases d10 <;> rfl), G0, G1, G2, G3, G4, G5, G7, G9⟩
            · skip
              obtain rfl : _ = o := Option.some.inj hi
              obtain rfl : d9 = false := by simpa using hun
              clear hun hdeps hi
              go_simp
              exact hK _ _ ⟨d0, d1, d2, d3, d4, d5, d6, d7, d8, true, d10, _, _, _, _, _, _, _, _, rfl, rfl, FQ, GB, G0, G1, G2, G3, G4, G5, G7, (fun _ => rfl)⟩
            · skip
              obtain rfl : _ = o := Option.some.inj hi
              obtain rfl : d10 = false := by simpa using hun
              obtain rfl : d9 = true := by
                have hd := hdeps
                simp [Region.binds] at hd
                first | exact hd | exact hd.1 | exact hd.2 | exact hd.2.1 | exact hd.2.2 | exact hd.1.1 | simp_all
              obtain rfl : d4 = true := by
                have hd := hdeps
                simp [Region.binds] at hd
                first | exact hd | exact hd.1 | exact hd.2 | exact hd.2.1 | exact hd.2.2 | exact hd.1.1 | simp_all
              clear hun hdeps hi
              have e9 := G9 rfl
              subst e9
              have e4 := G4 rfl
              subst e4
              have cq := GB.cell 9
              have fq := GB.frozen 9
              simp at cq
              go_simp
              exact hK _ _ ⟨d0, d1, d2, d3, true, d5, d6, d7, d8, true, true, _, _, _, _, _, _, _, _, rfl, rfl, FQ.set_only 9 none (.int .u32 pre.length), (GB.set 9 (.int .u32 pre.length)).cast (by cases d6 <;> cases d8 <;> rfl), G0, G1, G2, G3, G4, G5, G7, G9⟩
          case rest2 =>
            rintro e a W8 ⟨rfl, z48, z49, z50, z51, z52, z53, z54, z55, rfl, FQ, bQ⟩
            exact ⟨rfl, _, _, _, _, _, _, _, _, rfl, FQ, bQ⟩
        | false =>
          gi_wp2
          all_goals first | exact Fr.refl _ _ | exact bG
      case c2 =>
        rintro e a W8 ⟨rfl, z48, z49, z50, z51, z52, z53, z54, z55, rfl, FQ, bQ⟩
        have FW8 : Fr nothing W W8 := FW.trans FQ (fun k hk h => by have h9 : k = g := h; omega)
        have oB8 := OwnB.fr o45 FQ (fun k h1 h2 => by have h9 : k = g := h2; exact OwnB.ne o45 bG (by decide) (h9 ▸ h1))
        have hrb : (raw st ls mid pp inter bs m x.1 pre.length).body = body := hbody
        have hcell : pcs (raw st ls mid pp inter bs m x.1 pre.length) (.slice Ay body.length cy) = [.int .u8 (if inter then 64 else 0), .bool false, .bool false, .bool ls, .bool false, .int .u32 0, .int .u16 st, .int .u32 (if inter then mid else bits .and .u32 mid 65535), .int .u32 pp, .int .u32 (if inter then (pre.length : Int) else 0), .int .u32 0, .int .u32 0, .int .u16 0, .int .u16 0, .slice none 0 0, .slice none 0 0, .slice none 0 0, .slice none 0 0, .slice Ay body.length cy] := by rw [m16 hmid.1 hmid.2]; rfl
        have hcur := FW8.size
        have hvC : Boxed W8 (w.heap.size + 1 + 1) 28 (.slice Av pre.length cv) := (FW8.block _ hv.lt id).trans hv
        obtain ⟨qs, hps, hql, hrow, hel⟩ := (OwnCk.fr (S := nothing) hO FW8 (fun _ _ h => h)).split
        rw [hlenp] at hql
        have hrow2 := crow_fr (S := nothing) hrow ((Fr.refl _ W8).alloc (.cells #[.int .u8 (if inter then 64 else 0), .bool false, .bool false, .bool ls, .bool false, .int .u32 0, .int .u16 st, .int .u32 (if inter then mid else bits .and .u32 mid 65535), .int .u32 pp, .int .u32 (if inter then (pre.length : Int) else 0), .int .u32 0, .int .u32 0, .int .u16 0, .int .u16 0, .slice none 0 0, .slice none 0 0, .slice none 0 0, .slice none 0 0, .slice Ay body.length cy] 42)) (fun _ _ h => h)
        have hel2 : ∀ q ∈ qs, OwnB (W8.alloc (.cells #[.int .u8 (if inter then 64 else 0), .bool false, .bool false, .bool ls, .bool false, .int .u32 0, .int .u16 st, .int .u32 (if inter then mid else bits .and .u32 mid 65535), .int .u32 pp, .int .u32 (if inter then (pre.length : Int) else 0), .int .u32 0, .int .u32 0, .int .u16 0, .int .u16 0, .slice none 0 0, .slice none 0 0, .slice none 0 0, .slice none 0 0, .slice Ay body.length cy] 42)) W0.heap.size 5 q.2 q.1.body ∧ ∀ k, q.2.ownBlock = some k → (Value.slice Av pre.length cv).ownBlock ≠ some k := fun q hq => ⟨OwnB.fr (hel q hq).1 (S := nothing) ((Fr.refl _ W8).alloc _) (fun _ _ h => h), (hel q hq).2⟩
        have oC : OwnB (W8.alloc (.cells #[.int .u8 (if inter then 64 else 0), .bool false, .bool false, .bool ls, .bool false, .int .u32 0, .int .u16 st, .int .u32 (if inter then mid else bits .and .u32 mid 65535), .int .u32 pp, .int .u32 (if inter then (pre.length : Int) else 0), .int .u32 0, .int .u32 0, .int .u16 0, .int .u16 0, .slice none 0 0, .slice none 0 0, .slice none 0 0, .slice none 0 0, .slice Ay body.length cy] 42)) W.heap.size 5 (.slice Ay body.length cy) body := OwnB.fr oB8 (S := nothing) ((Fr.refl _ W8).alloc _) (fun _ _ h => h)
        have hne1 : ∀ k, (Value.slice Ay body.length cy).ownBlock = some k → (Value.slice Av pre.length cv).ownBlock ≠ some k := fun k h1 h2 => by have := OwnB.ge oC k h1; have := (hO.lt k h2).2; omega
        have hvD : Boxed (W8.alloc (.cells #[.int .u8 (if inter then 64 else 0), .bool false, .bool false, .bool ls, .bool false, .int .u32 0, .int .u16 st, .int .u32 (if inter then mid else bits .and .u32 mid 65535), .int .u32 pp, .int .u32 (if inter then (pre.length : Int) else 0), .int .u32 0, .int .u32 0, .int .u16 0, .int .u16 0, .slice none 0 0, .slice none 0 0, .slice none 0 0, .slice none 0 0, .slice Ay body.length cy] 42)) (w.heap.size + 1 + 1) 28 (.slice Av pre.length cv) := hvC.alloc _
        have hin : qs.length + 1 ≤ maxLen := by unfold maxLen; omega
        have hby : (qs.length + 1) * 160 ≤ 140737488355328 := by omega
        have hgb : W0.heap.size ≤ (W8.alloc (.cells #[.int .u8 (if inter then 64 else 0), .bool false, .bool false, .bool ls, .bool false, .int .u32 0, .int .u16 st, .int .u32 (if inter then mid else bits .and .u32 mid 65535), .int .u32 pp, .int .u32 (if inter then (pre.length : Int) else 0), .int .u32 0, .int .u32 0, .int .u16 0, .int .u16 0, .slice none 0 0, .slice none 0 0, .slice none 0 0, .slice none 0 0, .slice Ay body.length cy] 42)).heap.size := by simp; omega
        have FA : Fr (fun k => k = w.heap.size + 1 + 1 ∨ OfV (Value.slice Av pre.length cv) k) W (W8.alloc (.cells #[.int .u8 (if inter then 64 else 0), .bool false, .bool false, .bool ls, .bool false, .int .u32 0, .int .u16 st, .int .u32 (if inter then mid else bits .and .u32 mid 65535), .int .u32 pp, .int .u32 (if inter then (pre.length : Int) else 0), .int .u32 0, .int .u32 0, .int .u16 0, .int .u16 0, .slice none 0 0, .slice none 0 0, .slice none 0 0, .slice none 0 0, .slice Ay body.length cy] 42)) := (Fr.refl _ W).trans (FW8.alloc _) (fun k _ h => False.elim h)
        have hsn : rawL st ls mid pp inter bs m (nums (pre ++ [x])) = rawL st ls mid pp inter bs m (nums pre) ++ [raw st ls mid pp inter bs m x.1 pre.length] := by
          rw [show nums (pre ++ [x]) = nums pre ++ [x.1] by simp [nums], rawL_snoc]; simp [nums]
        have HSN := Lib.hid hsn
        clear hsn hrow hel
        refine Go.wpIn_mono (Reg.region_list_in (Post := fun a w2 => Fr (fun k => k = w.heap.size + 1 + 1 ∨ OfV (Value.slice Av pre.length cv) k) W w2 ∧ ∃ v', Boxed w2 (w.heap.size + 1 + 1) 28 v' ∧ OwnCk w2 W0.heap.size v' (rawL st ls mid pp inter bs m (nums (pre ++ [x])))) l _ (by kernel_rfl) ?w1) ?w2
        case w1 =>
          have ct := hvC.cell
          have ft := hvC.frozen
          clear hvC
          refine wpList_plain rfl (fun K hK => ?_)
          go_simp
          refine hK _ _ ?_
          clear hK K
          refine wpList_plain rfl (fun K hK => ?_)
          refine oper_load rfl rfl bQ hup rfl (by kernel_rfl) ?_
          refine hK _ _ ?_
          clear hK K
          refine wpList_plain rfl (fun K hK => ?_)
          go_simp
          refine hK _ _ ?_
          clear hK K
          refine wpList_append_c _ rfl _ _ 28 rfl W0.heap.size 42 i0 _ 19 160 Try.underlying28 hi0 hz0 hz1 hz2 rfl (by decide) _ qs.length (ccells qs) rfl hrow2 ⟨W8.heap.size, 0, none⟩ 1 1 [.int .u8 (if inter then 64 else 0), .bool false, .bool false, .bool ls, .bool false, .int .u32 0, .int .u16 st, .int .u32 (if inter then mid else bits .and .u32 mid 65535), .int .u32 pp, .int .u32 (if inter then (pre.length : Int) else 0), .int .u32 0, .int .u32 0, .int .u16 0, .int .u16 0, .slice none 0 0, .slice none 0 0, .slice none 0 0, .slice none 0 0, .slice Ay body.length cy] rfl rfl (new_list _ _ _) (by intro u hu; simp at hu; rcases hu with rfl | rfl | rfl | rfl | rfl | rfl | rfl | rfl | rfl | rfl | rfl | rfl | rfl | rfl | rfl | rfl | rfl | rfl | rfl <;> rfl) hin hby hgb ?_
          intro v' w1 hown hgrow hat
          have hO2 := OwnCk.more (p := raw st ls mid pp inter bs m x.1 pre.length) hps hel2 (by rw [hrb]; exact OwnB.low oC hW9) hne1 (by rw [hcell]; exact hown) hgrow hat
          obtain ⟨Az, cz, rfl⟩ := hO2.shape
          have hvE := hvD.kept hgrow (hvD.not_row (by decide) hrow2)
          have ct1 := hvE.cell
          have ft1 := hvE.frozen
          have HF := Lib.hid (FA.trans ((Fr.refl (OfV (Value.slice Av pre.length cv)) _).grown hgrow (fun k hk => .inl hk)) (fun k _ h => .inr h))
          have HO2 := Lib.hid hO2
          have HVE := Lib.hid hvE
          clear hown hgrow hat hO2 hvE hvD hel2 oC hrow2 FA
          refine wpList_plain rfl (fun K hK => ?_)
          go_simp
          refine hK _ _ ?_
          clear hK K
          exact ⟨rfl, HF.out.trans ((Fr.refl (only (w.heap.size + 1 + 1)) _).set_only 0 none _) (fun k _ h => .inl h), _, HVE.out.set _, by
            have ho := OwnCk.fr HO2.out ((Fr.refl (only (w.heap.size + 1 + 1)) _).set_only 0 none (.slice Az (pre.length + 1) cz)) (fun k h1 h2 => by have h9 : k = w.heap.size + 1 + 1 := h2; omega)
            rw [HSN.out]
            rw [List.length_append, hlenp] at ho
            exact ho⟩
        case w2 =>
          rintro e a w2 ⟨rfl, F, v', hb, ho⟩
          have hnv : ∀ k, OfV (Value.slice Av pre.length cv) k → W0.heap.size ≤ k := fun k h => (hO.lt k h).1
          have hB2 : Below w.heap.size W w2 := Bl.of_fr F hB.size (fun k h => by
            rcases h with h | h
            · omega
            · have := hnv k h; omega)
          have hne : ∀ k, k < W0.heap.size → k ≠ w.heap.size + 1 + 1 → ¬ (fun k => k = w.heap.size + 1 + 1 ∨ OfV (Value.slice Av pre.length cv) k) k := fun k h1 h2 h => by
            rcases h with h | h
            · exact h2 h
            · have := hnv k h; omega
          refine ⟨(keeps_fr F (fun k hk o ho' => ?_)).from _, ⟨hB2, fun hl => F.block _ hl (hne _ (by omega) (by omega)), fun hl => F.block _ hl (hne _ (by omega) (by omega))⟩, ⟨v', hb, ho, (F.block _ hM.lt (hne _ (by omega) (by omega))).trans hM, (F.block _ hI.lt (hne _ (by omega) (by omega))).trans hI⟩, Bl.trans hB hB2, Nat.le_trans hW9 F.size⟩
          rcases hk with rfl | h
          · rw [show W.heap[w.heap.size + 1 + 1]? = _ from hv] at ho'; cases ho'; rfl
          · obtain ⟨qs, -, -, hrow, -⟩ := hO.split
            rcases hrow.2 with ⟨e, _⟩ | ⟨g', cap', cur, e, hb', hg', _⟩
            · rw [e] at h; cases h
            · rw [e] at h
              have e2 : g' = k := Option.some.inj h
              subst e2
              rw [hg'] at ho'; cases ho'; rfl
  case done =>
    rintro D ys W hD hys ⟨⟨v, hv, hO, hM, hI⟩, hB, hW9⟩ hK
    obtain ⟨N, hN⟩ : ∃ N, (bs.length + m - 1) / m = N := ⟨_, rfl⟩
    have hN0 : 0 < N := by rw [← hN]; exact pk_lt hm0 (k := 0) (by omega)
    have hN1 : N ≤ 70000 := by have := Nat.div_le_self (bs.length + m - 1) m; omega
    rw [hys, hN] at hO
    obtain ⟨ps, hps⟩ : ∃ ps, rawL st ls mid pp inter bs m (List.range N) = ps := ⟨_, rfl⟩
    have hpl : ps.length = N := by rw [← hps]; simp [rawL]
    rw [hps] at hO
    obtain ⟨Av, cv, ev⟩ := hO.shape
    rw [hpl] at ev
    subst ev
    have cb := hv.cell
    obtain ⟨g, s0, eA, hg1, hg2, os, hc0, hf0, hset⟩ := hO.cell 0 1 (by omega) (by decide)
    subst eA
    have hc0' : W.cell? ⟨g, 1, none⟩ = some (.bool ps[0].bg) := hc0
    have hf0' : W.frozen? ⟨g, 1, none⟩ = false := hf0
    have hp0 := hset { ps[0] with bg := true } (.bool true) rfl (fun s => rfl)
    obtain ⟨ps1, hps1⟩ : ∃ ps1, ps.set 0 { ps[0] with bg := true } = ps1 := ⟨_, rfl⟩
    have hpl1 : ps1.length = N := by rw [← hps1, List.length_set]; exact hpl
    rw [hps1] at hp0
    replace hp0 : OwnCk (W.setCell ⟨g, 1, none⟩ (.bool true)) W0.heap.size (.slice (some ⟨g, 0, none⟩) N cv) ps1 := hp0
    have hgO : ¬ w.heap.size + 1 + 1 = g := by omega
    have hv1 : Boxed (W.setCell ⟨g, 1, none⟩ (.bool true)) (w.heap.size + 1 + 1) 28 (.slice (some ⟨g, 0, none⟩) N cv) := (((Fr.refl (only g) W).set_only 1 none (.bool true)).block _ hv.lt (fun h => hgO h)).trans hv
    have cb1 := hv1.cell
    obtain ⟨g2, s2, eA, -, -, os2, hc2, hf2, hset2⟩ := hp0.cell (N - 1) 2 (by omega) (by decide)
    obtain rfl : g = g2 := by injection eA with e; injection e
    clear eA
    have hp2 := hset2 { ps1[N - 1] with en := true } (.bool true) rfl (fun s => rfl)
    have hv2 : Boxed ((W.setCell ⟨g, 1, none⟩ (.bool true)).setCell ⟨g, (N - 1) * 19 + 2, none⟩ (.bool true)) (w.heap.size + 1 + 1) 28 (.slice (some ⟨g, 0, none⟩) N cv) := (((Fr.refl (only g) _).set_only _ none (.bool true)).block _ hv1.lt (fun h => hgO h)).trans hv1
    have cb2 := hv2.cell
    replace hc2 : (W.setCell ⟨g, 1, none⟩ (.bool true)).cell? ⟨g, (N - 1) * 19 + 2, none⟩ = some (.bool ps1[N - 1].en) := hc2
    have hN2 : 1 ≤ N := hN0
    have hNi : (0 : Int) < N := by omega
    have hNb : (N : Int) ≤ 70000 := by omega
    clear hset hset2 hp0 hc0 hf0
    have hlist : ps1.set (N - 1) { ps1[N - 1] with en := true } = pieces st ls mid pp inter bs m := by
      subst hps1
      subst hps
      exact pieces_eq st ls mid pp inter bs m N hN hN0 _ _
    rw [hlist] at hp2
    have HP2 := Lib.hid hp2
    have HK := Lib.hid hK
    have HB := Lib.hid hB
    have hgw : w.heap.size ≤ g := by omega
    clear hp2 hlist hps hps1 hK hB hys
    gi_wp2
    have hK1 := (KeepsOthers.setCell W ⟨g, 1, none⟩ (.bool true)).same D _ HK.out rfl
    have hK2 := (KeepsOthers.setCell _ ⟨g, (N - 1) * 19 + 2, none⟩ (.bool true)).same D _ hK1 rfl
    refine ⟨by simp, .inl ⟨_, _, rfl, run_takeDeferred hK2, ?_⟩⟩
    have ho := OwnCk.grown HP2.out (grownBy_putObj' _ D (.deferred none)) (fun r e => by cases e; exact ⟨_, hK2, rfl⟩)
    have hle : w.heap.size ≤ W0.heap.size := by omega
    have hND : npc m bs = N := hN
    rw [hND]
    refine ⟨_, results_tmp2 rfl _ _ _, _, cv, rfl, ho.low hle, ?_⟩
    exact ((HB.out.setCell (p := ⟨g, 1, none⟩) hgw _).setCell (p := ⟨g, (N - 1) * 19 + 2, none⟩) hgw _).trans (belowK_b (w := w) (Nat.le_refl _) _ D _ _ (by omega) hK2 rfl rfl)
  case stop =>
    rintro D c pre W _ _ h _
    exact h.elim
end Go.Proofs.Ytnhkmapeleomkaa.Frag
