/- What the chunk's reader reads: lists. Conditions: each names its blocks. -/
import Derived.Test.YtaifihoheieneaaZChkList
import Derived.Deep.AppendLies
import Derived.Deep.RegionLaw
import Derived.IntWalk
namespace Go.Proofs.Ytaifihoheieneaa.Chk
open Go.RowKit Go.Proofs.Ytaifihoheieneaa.Mem Go.Proofs.Ytaifihoheieneaa.Octet Go.Proofs.Ytaifihoheieneaa.Prm
set_option linter.unusedVariables false
set_option linter.unusedSimpArgs false
attribute [local go_sem ↓] Go.wp_at_zero Go.wp_at_succ
def bz (xs : List Int) (j : Nat) : Bool := (List.range j).any fun i => !(decide (at2 xs (4 + 8 * i + 2) ≤ 1))
theorem bz_succ (xs : List Int) (j : Nat) : bz xs (j + 1) = (bz xs j || !(decide (at2 xs (4 + 8 * j + 2) ≤ 1))) := by simp [bz, List.range_succ]
theorem bz_all (xs : List Int) (j : Nat) : bz xs j = false ↔ ∀ i, i < j → at2 xs (6 + 8 * i) ≤ 1 := by
  unfold bz
  rw [List.any_eq_false]
  constructor
  · intro h i hi
    have := h i (List.mem_range.2 hi)
    simp only [Bool.not_eq_true, Bool.not_eq_false', decide_eq_true_eq] at this
    rw [show 6 + 8 * i = 4 + 8 * i + 2 by omega]
    exact this
  · intro h i hi
    have := h i (List.mem_range.1 hi)
    simp only [Bool.not_eq_true, Bool.not_eq_false', decide_eq_true_eq]
    rw [show 6 + 8 * i = 4 + 8 * i + 2 by omega] at this
    exact this
theorem ok_194 {f : Int} {xs : List Int} {j : Nat} (hz : f = 0) (h1 : xs.length ≤ 4 + 8 * j) (h2 : j = 0 ∨ 4 + 8 * (j - 1) < xs.length) : (bz xs j || decide (xs.length < 4 + 8 * j) || decide (0 < (xs.drop (4 + 8 * j)).length)) = !rOk 194 f xs := by
  have hok : rOk 194 f xs = decide (f = 0 ∧ 4 ≤ xs.length ∧ (xs.length - 4) % 8 = 0 ∧ ∀ j, j < (xs.length - 4) / 8 → at2 xs (6 + 8 * j) ≤ 1) := rfl
  rw [hok, decide_eq_false (p := 0 < (xs.drop (4 + 8 * j)).length) (by rw [List.length_drop]; omega), Bool.or_false]
  by_cases hl : xs.length < 4 + 8 * j
  · rw [decide_eq_true hl, decide_eq_false (fun h => by omega)]
    simp
  · have e : (xs.length - 4) / 8 = j := by omega
    rw [decide_eq_false hl, e, Bool.or_false]
    cases hb : bz xs j with
    | true => rw [decide_eq_false (fun h => by have := (bz_all xs j).2 h.2.2.2; rw [this] at hb; cases hb)]; rfl
    | false => rw [decide_eq_true ⟨hz, by omega, by omega, (bz_all xs j).1 hb⟩]; rfl
set_option maxHeartbeats 4000000 in
set_option maxRecDepth 100000 in
theorem read_194 (gX gR gC lo hi : Nat) (f : Int) (xs : List Int) (w : World) (H0 : Rg w w gX gR gC lo hi xs false false (z19 194)) (S : Sp w gX gR gC lo hi) (hB : IsB xs) (hl : xs.length ≤ 100000) (hf : 0 ≤ f ∧ f < 256) :
    Calls Try.prog 42 #[.pointer (some ⟨gX, 0, none⟩), .pointer (some ⟨gC, 0, none⟩), .int .u8 f] w (ReadP w gX gR gC 194 f xs) := by
  have hF := Blk.new w #[.int .u8 f] 5
  have H := H0.away S ((Fr.refl nothing w).alloc (.cells #[.int .u8 f] 5)) (fun k h => h.elim)
  have cx0 := H.x.cell 0
  have cx1 := H.x.cell 1
  have cf := hF.cell 0
  have ck : (w.alloc (.cells #[.int .u8 f] 5)).cell? ⟨gC, 0, none⟩ = some (.int .u8 194) := H.c.cell 0
  simp at cx0 cx1 cf
  have HS := Lib.hid S
  have HBB := Lib.hid hB
  clear H0 hB
  have hok : rOk 194 f xs = decide (f = 0 ∧ 4 ≤ xs.length ∧ (xs.length - 4) % 8 = 0 ∧ ∀ j, j < (xs.length - 4) / 8 → at2 xs (6 + 8 * j) ≤ 1) := rfl
  have HOK := Lib.hid hok
  clear hok
  have H : Rg w (w.alloc (.cells #[.int .u8 f] 5)) gX gR gC lo hi (xs.drop 0) (decide (xs.length < 0)) false (z19 194) := by simpa using H
  go_enter Try.func42, Try.ntmps42
  go_wp2_with fail
  refine (rd4_calls _ _ _ xs 0 _ H.r HBB.out).mono ?_
  rintro e w1 ⟨rfl, r, fr⟩
  replace hF := hF.fr fr (fun h => by have := HS.out.lr; have h9 : w.heap.size = gR := h; omega)
  replace H := H.num HS.out r fr
  clear r fr
  have k5 : w1.cell? ⟨gC, 5, none⟩ = some (.int .u32 0) := H.c.cell 5
  have q5 := H.c.frozen 5
  go_upto_region 43 with fail
  replace H := H.put HS.out 5 (.int .u32 (at4 xs 0))
  rw [ckA_5] at H
  replace hF := hF.far (p := ⟨gC, 5, none⟩) (by show w.heap.size ≠ gC; have := HS.out.lc; omega) (.int .u32 (at4 xs 0))
  generalize w1.setCell ⟨gC, 5, none⟩ (.int .u32 (at4 xs 0)) = w2 at *
  clear k5 q5 cx0 cx1 cf ck
  have hZ0 : w.heap.size + 1 ≤ w2.heap.size := by have := hF.lt; omega
  go_loopw [9] (fun v9 wr => ∃ (j : Nat) (As : Option Addr) (pS : Nat), Rg w wr gX gR gC lo hi (xs.drop (4 + 8 * j)) (decide (xs.length < 4 + 8 * j)) (bz xs j) (ckA 194 false false false false (at4 xs 0) 0 0 0 0 0 0 0 0 (.slice none 0 0) (.slice none 0 0) (.slice As j pS) (.slice none 0 0) (.slice none 0 0)) ∧ Blk wr w.heap.size 5 #[.int .u8 f] ∧ wr.ownsRow (w.heap.size + 1) 75 3 (.slice As j pS) j (scells (skipsIt xs j)) ∧ w.heap.size + 1 ≤ wr.heap.size ∧ (j = 0 ∨ 4 + 8 * (j - 1) < xs.length)) (fun _ wr => leftIn wr gR)
  case atStart => exact ⟨0, none, 0, H, hF, World.ownsRow_nil _ _ _ _, hZ0, .inl rfl⟩
  case round =>
    clear H hF hZ0
    obtain ⟨j, As, pS, H, hF, O, hZ, hj⟩ := hrel
    have hZ := Lib.hid hZ
    have cx0 := H.x.cell 0
    have cx1 := H.x.cell 1
    have cf := hF.cell 0
    simp at cx0 cx1 cf
    have ck : wr.cell? ⟨gC, 0, none⟩ = some (.int .u8 194) := H.c.cell 0
    have hll := Rdr.left H.r
    have hdl : (xs.drop (4 + 8 * j)).length = xs.length - (4 + 8 * j) := List.length_drop
    have HLL := Lib.hid hll
    clear hll
    by_cases hlt : 4 + 8 * j < xs.length
    · have hlp : decide ((0 : Int) < (xs.drop (4 + 8 * j)).length) = true := decide_eq_true (by omega)
      have hnb := Lib.hid (show j ≤ 100000 by omega)
      clear hdl
      go_wp2_with fail
      refine (left_calls _ _ _ _ _ _ H.r).mono ?_
      rintro e we ⟨rfl, hwe⟩
      rw [hwe]
      clear hwe
      go_wp2_with fail
      refine (rd2_calls _ _ _ xs (4 + 8 * j) _ H.r HBB.out).mono ?_
      rintro e y1 ⟨rfl, r, fr⟩
      clear hlp ck
      replace hF := hF.fr fr (fun h => by have := HS.out.lr; have h9 : w.heap.size = gR := h; omega)
      replace O := row_fr O fr (fun k h1 h2 => by have h9 : k = gR := h2; have := (O.lt k h1).1; have := HS.out.lr; omega)
      replace hZ := Lib.hid (Nat.le_trans hZ.out fr.size)
      replace H := H.num HS.out r fr
      clear r fr cx0 cx1 cf
      go_upto_region 45 with fail
      have bS := Blk.new y1 #[.int .u16 (at2 xs (4 + 8 * j)), .bool false, .int .u32 0] 75
      replace H := H.away HS.out ((Fr.refl nothing y1).alloc (.cells #[.int .u16 (at2 xs (4 + 8 * j)), .bool false, .int .u32 0] 75)) (fun k h => h.elim)
      replace hF := hF.alloc (.cells #[.int .u16 (at2 xs (4 + 8 * j)), .bool false, .int .u32 0] 75)
      have hOS : ∀ k, (Value.slice As j pS).ownBlock = some k → k ≠ y1.heap.size := fun k h1 => by have := (O.lt k h1).2; omega
      replace O := row_fr (S := nothing) O ((Fr.refl nothing y1).alloc (.cells #[.int .u16 (at2 xs (4 + 8 * j)), .bool false, .int .u32 0] 75)) (fun _ _ h => h)
      have hgS := hZ.out
      replace hZ := Lib.hid (show w.heap.size + 1 ≤ (y1.alloc (.cells #[.int .u16 (at2 xs (4 + 8 * j)), .bool false, .int .u32 0] 75)).heap.size by simp; omega)
      generalize y1.alloc (.cells #[.int .u16 (at2 xs (4 + 8 * j)), .bool false, .int .u32 0] 75) = y2 at *
      generalize y1.heap.size = gS at *
      have HGS := Lib.hid (And.intro hgS hOS)
      clear hgS hOS
      have cx0 := H.x.cell 0
      have cx1 := H.x.cell 1
      have cf := hF.cell 0
      simp at cx0 cx1 cf
      go_wp2_with fail
      refine (rd2_calls _ _ _ xs (4 + 8 * j + 2) _ H.r HBB.out).mono ?_
      rintro e y3 ⟨rfl, r, fr⟩
      replace hF := hF.fr fr (fun h => by have := HS.out.lr; have h9 : w.heap.size = gR := h; omega)
      replace O := row_fr O fr (fun k h1 h2 => by have h9 : k = gR := h2; have := (O.lt k h1).1; have := HS.out.lr; omega)
      replace bS := bS.fr fr (fun h => by have h9 : gS = gR := h; have := HGS.out.1; have := HS.out.lr; omega)
      replace hZ := Lib.hid (Nat.le_trans hZ.out fr.size)
      replace H := H.num HS.out r fr
      clear r fr cx0 cx1 cf
      have cx0 := H.x.cell 0
      have cx1 := H.x.cell 1
      have cf := hF.cell 0
      simp at cx0 cx1 cf
      go_wp2_with fail
      refine (must_calls gX _ _ _ _ H.x).mono ?_
      rintro e y4 ⟨rfl, bm, fr⟩
      replace bm := Blk.bool (b := bz xs (j + 1)) bm (bz_succ xs j).symm
      replace hF := hF.fr fr (fun h => by have := HS.out.lx; have h9 : w.heap.size = gX := h; omega)
      replace O := row_fr O fr (fun k h1 h2 => by have h9 : k = gX := h2; have := (O.lt k h1).1; have := HS.out.lx; omega)
      replace bS := bS.fr fr (fun h => by have h9 : gS = gX := h; have := HGS.out.1; have := HS.out.lx; omega)
      replace hZ := Lib.hid (Nat.le_trans hZ.out fr.size)
      replace H := H.must HS.out bm fr
      clear bm fr cx0 cx1 cf
      have cx0 := H.x.cell 0
      have cx1 := H.x.cell 1
      have cf := hF.cell 0
      simp at cx0 cx1 cf
      go_wp2_with fail
      refine (rd4_calls _ _ _ xs (4 + 8 * j + 4) _ H.r HBB.out).mono ?_
      rintro e y5 ⟨rfl, r, fr⟩
      replace hF := hF.fr fr (fun h => by have := HS.out.lr; have h9 : w.heap.size = gR := h; omega)
      replace O := row_fr O fr (fun k h1 h2 => by have h9 : k = gR := h2; have := (O.lt k h1).1; have := HS.out.lr; omega)
      replace bS := bS.fr fr (fun h => by have h9 : gS = gR := h; have := HGS.out.1; have := HS.out.lr; omega)
      replace hZ := Lib.hid (Nat.le_trans hZ.out fr.size)
      replace H := H.num HS.out r fr
      clear r fr cx0 cx1 cf
      have s1 := bS.cell 1
      have s2 := bS.cell 2
      have u1 := bS.frozen 1
      have u2 := bS.frozen 2
      simp at s1 s2
      obtain ⟨lb, hlb⟩ : ∃ x, (at2 xs (4 + 8 * j + 2) == 1) = x := ⟨_, rfl⟩
      go_upto_region 48 with fail
      have HLB := Lib.hid hlb
      clear hlb s1 s2 u1 u2
      have fS : Fr (only gS) y5 (y5.setCell ⟨gS, 1, none⟩ (.bool lb)) := (Fr.refl _ _).set_only 1 none _
      replace H := H.away HS.out fS (fun k h => by have h9 : k = gS := h; have := HGS.out.1; omega)
      replace hF := hF.fr fS (fun h => by have h9 : w.heap.size = gS := h; have := HGS.out.1; omega)
      replace O := row_fr O fS (fun k h1 h2 => HGS.out.2 k h1 h2)
      replace hZ := Lib.hid (Nat.le_trans hZ.out fS.size)
      replace bS := bS.set 1 (.bool lb)
      clear fS
      generalize y5.setCell ⟨gS, 1, none⟩ (.bool lb) = y6 at *
      have fS : Fr (only gS) y6 (y6.setCell ⟨gS, 2, none⟩ (.int .u32 (at4 xs (4 + 8 * j + 4)))) := (Fr.refl _ _).set_only 2 none _
      replace H := H.away HS.out fS (fun k h => by have h9 : k = gS := h; have := HGS.out.1; omega)
      replace hF := hF.fr fS (fun h => by have h9 : w.heap.size = gS := h; have := HGS.out.1; omega)
      replace O := row_fr O fS (fun k h1 h2 => HGS.out.2 k h1 h2)
      replace hZ := Lib.hid (Nat.le_trans hZ.out fS.size)
      replace bS := bS.set 2 (.int .u32 (at4 xs (4 + 8 * j + 4)))
      clear fS
      generalize y6.setCell ⟨gS, 2, none⟩ (.int .u32 (at4 xs (4 + 8 * j + 4))) = y7 at *
      have bS2 : Blk y7 gS 75 #[.int .u16 (at2 xs (4 + 8 * j)), .bool lb, .int .u32 (at4 xs (4 + 8 * j + 4))] := bS
      clear bS
      have cs0 : y7.drew.cell? ⟨gS, 0, none⟩ = some (.int .u16 (at2 xs (4 + 8 * j))) := bS2.drew.cell 0
      have cs1 : y7.drew.cell? ⟨gS, 1, none⟩ = some (.bool lb) := bS2.drew.cell 1
      have cs2 : y7.drew.cell? ⟨gS, 2, none⟩ = some (.int .u32 (at4 xs (4 + 8 * j + 4))) := bS2.drew.cell 2
      have ct0 : y7.cell? ⟨gS, 0, none⟩ = some (.int .u16 (at2 xs (4 + 8 * j))) := cs0
      have ct1 : y7.cell? ⟨gS, 1, none⟩ = some (.bool lb) := cs1
      have ct2 : y7.cell? ⟨gS, 2, none⟩ = some (.int .u32 (at4 xs (4 + 8 * j + 4))) := cs2
      have HD0 := Lib.hid (H.away HS.out (Fr.refl nothing y7).drew (fun k h => h.elim))
      have hD0 := Lib.hid (hF.fr (Fr.refl nothing y7).drew id)
      have OD0 := Lib.hid (row_fr (S := nothing) O (Fr.refl nothing y7).drew (fun _ _ h => h))
      have hz0 := Lib.hid (show w.heap.size + 1 ≤ y7.drew.heap.size from hZ.out)
      have cx0 : y7.drew.cell? ⟨gX, 0, none⟩ = some (.pointer (some ⟨gR, 0, none⟩)) := HD0.out.x.cell 0
      have cz0 : y7.drew.cell? ⟨gC, 16, none⟩ = some (.slice As (j) pS) := HD0.out.c.cell 16
      obtain ⟨ii, hii, hi0, hi1, hi2⟩ := info_of info_skip
      have HA := Lib.hid (HD0.out.away HS.out ((Fr.refl nothing y7.drew).alloc (.cells #[.int .u16 (at2 xs (4 + 8 * j)), .bool lb, .int .u32 (at4 xs (4 + 8 * j + 4))] 75)) (fun k h => h.elim))
      have hA := Lib.hid (hD0.out.alloc (.cells #[.int .u16 (at2 xs (4 + 8 * j)), .bool lb, .int .u32 (at4 xs (4 + 8 * j + 4))] 75))
      have OA := Lib.hid (row_fr (S := nothing) OD0.out ((Fr.refl nothing y7.drew).alloc (.cells #[.int .u16 (at2 xs (4 + 8 * j)), .bool lb, .int .u32 (at4 xs (4 + 8 * j + 4))] 75)) (fun _ _ h => h))
      have hzA := Lib.hid (show w.heap.size + 1 ≤ (y7.drew.alloc (.cells #[.int .u16 (at2 xs (4 + 8 * j)), .bool lb, .int .u32 (at4 xs (4 + 8 * j + 4))] 75)).heap.size by have h9 : w.heap.size + 1 ≤ y7.heap.size := hz0.out; simp; omega)
      have cx1 : (y7.drew.alloc (.cells #[.int .u16 (at2 xs (4 + 8 * j)), .bool lb, .int .u32 (at4 xs (4 + 8 * j + 4))] 75)).cell? ⟨gX, 0, none⟩ = some (.pointer (some ⟨gR, 0, none⟩)) := HA.out.x.cell 0
      have cz1 : (y7.drew.alloc (.cells #[.int .u16 (at2 xs (4 + 8 * j)), .bool lb, .int .u32 (at4 xs (4 + 8 * j + 4))] 75)).cell? ⟨gC, 16, none⟩ = some (.slice As (j) pS) := HA.out.c.cell 16
      have cw1 : (y7.alloc (.cells #[.int .u16 (at2 xs (4 + 8 * j)), .bool lb, .int .u32 (at4 xs (4 + 8 * j + 4))] 75)).cell? ⟨gC, 16, none⟩ = some (.slice As (j) pS) := cz1
      have cw2 : y7.cell? ⟨gC, 16, none⟩ = some (.slice As (j) pS) := cz0
      go_region_law (first
        | ((refine step_append_lies _ (by rfl) (.tmp 323) (.tmp 325) _ (by rfl) (w.heap.size + 1) 75 ii (.agg #[.int .u16 0, .bool false, .int .u32 0]) 3 8 Try.underlying27 hii hi0 hi1 hi2 rfl (by omega) (.slice As (j) pS) (j) (scells (skipsIt xs j)) (by rfl) OA.out ⟨y7.drew.heap.size, 0, none⟩ 1 1 [.int .u16 (at2 xs (4 + 8 * j)), .bool lb, .int .u32 (at4 xs (4 + 8 * j + 4))] (by rfl) rfl (World.news_of_block (heap_alloc_new y7.drew _)) (by intro u hu; simp at hu; first | (rcases hu with rfl | rfl | rfl <;> rfl) | (rcases hu with rfl | rfl <;> rfl) | (subst hu; rfl)) (by omega) (by have := hnb.out; simp [maxLen]; omega) (by have := hnb.out; omega) hzA.out (y7.drew.heap.size + 1) (by simp) ?_; intro gn cn wa hown hgrow hat hlt; have HE0 := Lib.hid (HA.out.away HS.out ((Fr.refl _ _).grown (S := OfV (.slice As (j) pS)) hgrow (fun k hk => .inl hk)) (fun k hk => by have := (OA.out.lt k hk).1; omega)); have hE0 := Lib.hid (hA.out.fr ((Fr.refl _ _).grown (S := OfV (.slice As (j) pS)) hgrow (fun k hk => .inl hk)) (fun h => by have := (OA.out.lt _ h).1; omega)); have OE := Lib.hid hown; have hzE := Lib.hid (Nat.le_trans hzA.out hgrow.size); clear hown hat; have cx2 : wa.cell? ⟨gX, 0, none⟩ = some (.pointer (some ⟨gR, 0, none⟩)) := HE0.out.x.cell 0; have cz2 : wa.cell? ⟨gC, 16, none⟩ = some (.slice As (j) pS) := HE0.out.c.cell 16; have qz := HE0.out.c.frozen 16; have cx3 : (wa.setCell ⟨gC, 16, none⟩ (.slice (some ⟨gn, 0, none⟩) (j + 1) cn)).cell? ⟨gX, 0, none⟩ = some (.pointer (some ⟨gR, 0, none⟩)) := (HE0.out.put HS.out 16 (.slice (some ⟨gn, 0, none⟩) (j + 1) cn)).x.cell 0)))
      all_goals (
        have HP := HE0.out.put HS.out 16 (.slice (some ⟨gn, 0, none⟩) (j + 1) cn)
        rw [ckA_16] at HP
        have hP := Lib.hid (hE0.out.far (p := ⟨gC, 16, none⟩) (by show w.heap.size ≠ gC; have := HS.out.lc; omega) (.slice (some ⟨gn, 0, none⟩) (j + 1) cn))
        have fP : Fr (only gC) wa (wa.setCell ⟨gC, 16, none⟩ (.slice (some ⟨gn, 0, none⟩) (j + 1) cn)) := (Fr.refl _ _).set_only 16 none _
        have OP := row_fr OE.out fP (fun k h1 h2 => by have h9 : k = gC := h2; have := (OE.out.lt k h1).1; have := HS.out.lc; omega)
        have HOP := Lib.hid (show World.ownsRow _ (w.heap.size + 1) 75 3 (.slice (some ⟨gn, 0, none⟩) (j + 1) cn) (j + 1) (scells (skipsIt xs (j + 1))) by rw [skipsIt_snoc, scells_snoc, HLB.out]; exact OP)
        have hZP := Lib.hid (Nat.le_trans hzE.out fP.size)
        have HHP := Lib.hid HP
        clear HP fP OP OE hzE HE0 hE0 HA hA OA OD0 HD0 hD0 H hF O cx0 cx1 cx2 cx3 cz0 cz1 cz2 qz hgrow cs0 cs1 cs2 ct0 ct1 ct2 cw1 cw2 bS2
        generalize wa.setCell ⟨gC, 16, none⟩ (.slice (some ⟨gn, 0, none⟩) (j + 1) cn) = wz at *
        go_wp2
        go_roundw
        case rel => exact ⟨j + 1, _, cn, HHP.out, hP.out, HOP.out, hZP.out, .inr (by omega)⟩
        case measure => rw [Rdr.left HHP.out.r, HLL.out, List.length_drop, List.length_drop]; omega)
    · have hln : decide ((0 : Int) < (xs.drop (4 + 8 * j)).length) = false := decide_eq_false (by omega)
      have hsl := Lib.hid (skipsIt_len xs j)
      clear hdl
      go_wp2_with fail
      refine (left_calls _ _ _ _ _ _ H.r).mono ?_
      rintro e we ⟨rfl, hwe⟩
      rw [hwe]
      clear hwe
      by_cases hz : f = 0
      · have hzb : (f == 0) = true := beq_iff_eq.2 hz
        have HZ := Lib.hid hz
        clear hz
        go_wp2_with fail
        refine (end_calls _ _ _ _ _ _ H.r).mono ?_
        rintro e we ⟨rfl, hwe⟩
        rw [hwe]
        clear hwe
        go_wp2_with fail
        refine (must_calls gX _ _ _ _ H.x).mono ?_
        rintro e wz ⟨rfl, bz, fz⟩
        go_wp2
        first | go_end0 | ((try simp only [Exit.inBlock, Exit.then]); refine bodyPost_ret (results_none rfl _ _ _) rfl ?_)
        refine ⟨rfl, _, Blk.bool bz ?okT, H.c.fr fz (fun h => HS.out.xc (show gC = gX from h).symm), H.t.trans fz (fun k _ hk => .inl hk), fun hok => ?ckT⟩
        case okT => rw [end_eq]; exact ok_194 HZ.out (by omega) hj
        case ckT => rw [HOK.out] at hok; have hokk := of_decide_eq_true hok; have hj2 : (xs.length - 4) / 8 = j := (by have h1 := hokk.2.1; have h2 := hokk.2.2.1; clear hokk hok; omega); have hrc : (rC 194 f xs).skips = skipsIt xs j := (by show skipsIt xs ((xs.length - 4) / 8) = _; rw [hj2]); exact ⟨rfl, ckA_one rfl rfl rfl rfl rfl, rfl, rfl, rfl, rfl, rfl, rfl, rfl, rfl, rfl, rfl, rfl, rfl, rfl, rfl, ⟨none, 0, rfl, fun i h => absurd (show i < 0 from h) (Nat.not_lt_zero i)⟩, ⟨none, 0, rfl, fun i h => absurd (show i < 0 from h) (Nat.not_lt_zero i)⟩, ⟨As, pS, by rw [hrc, hsl.out]; rfl, by rw [hrc]; exact (own_skp (by rw [hsl.out]; exact row_fr O fz (fun k h1 h2 => by have h9 : k = gX := h2; have := (O.lt k h1).1; have := HS.out.lx; omega))).low (by omega)⟩, ⟨none, 0, rfl, fun i h => absurd (show i < 0 from h) (Nat.not_lt_zero i)⟩, ⟨none, 0, rfl, nilv _ _ _⟩⟩
      · have hzb : (f == 0) = false := beq_eq_false_iff_ne.2 hz
        have HZ := Lib.hid hz
        clear hz
        go_wp2_with fail
        refine (must_calls gX _ _ _ _ H.x).mono ?_
        rintro e wz ⟨rfl, bz, fz⟩
        go_wp2
        first | go_end0 | ((try simp only [Exit.inBlock, Exit.then]); refine bodyPost_ret (results_none rfl _ _ _) rfl ?_)
        have hno : rOk 194 f xs = false := (by rw [HOK.out]; simp [HZ.out])
        refine ⟨rfl, _, Blk.bool bz (by rw [hno]; simp), H.c.fr fz (fun h => HS.out.xc (show gC = gX from h).symm), H.t.trans fz (fun k _ hk => .inl hk), fun hok => by rw [hno] at hok; cases hok⟩
end Go.Proofs.Ytaifihoheieneaa.Chk
