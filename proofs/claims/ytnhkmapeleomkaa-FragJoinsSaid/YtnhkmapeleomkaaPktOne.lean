/- What packet.Put answers for one chunk of a message's bytes. Conditions: each names its blocks and the bounds. -/
import Derived.Test.YtnhkmapeleomkaaChkPut
import Derived.Test.YtnhkmapeleomkaaCrcSeal
import Derived.Test.YtnhkmapeleomkaaFragCounts
namespace Go.Proofs.Ytnhkmapeleomkaa.Pkt
open Go.RowKit Go.Proofs.Ytnhkmapeleomkaa.Mem Go.Proofs.Ytnhkmapeleomkaa.Octet Go.Proofs.Ytnhkmapeleomkaa.Prm Go.Proofs.Ytnhkmapeleomkaa.Chk
set_option linter.unusedVariables false
set_option linter.unusedSimpArgs false
theorem isb_16 (x : Int) : IsB (b16 x) := fun y hy => by simp [b16] at hy; omega
theorem isb_32 (x : Int) : IsB (b32 x) := fun y hy => by simp [b32] at hy; omega
theorem isb_app {xs ys : List Int} (h : IsB xs) (h2 : IsB ys) : IsB (xs ++ ys) := fun y hy => by
  rcases List.mem_append.1 hy with hy | hy
  · exact h y hy
  · exact h2 y hy
theorem isb_rep (n : Nat) : IsB (List.replicate n 0) := fun y hy => by have := List.eq_of_mem_replicate hy; omega
theorem bt_rng (b : Bool) (v : Int) (h : 0 ≤ v) : 0 ≤ bt b v ∧ bt b v ≤ v := by cases b <;> simp [bt] <;> omega
theorem isb_cB {c : Ck} (hk : c.k = 0 ∨ c.k = 64) (hB : CkB c) : IsB (cB c) := by
  have h1 := hB.k
  have f1 := bt_rng c.e 1 (by omega)
  have f2 := bt_rng c.b 2 (by omega)
  have f3 := bt_rng c.l 4 (by omega)
  have hf : fl c = bt c.e 1 + bt c.b 2 + bt c.l 4 := by unfold fl; rw [if_pos hk]
  have hb : IsB (bB c) := by
    unfold bB
    rcases hk with hk | hk
    · rw [if_pos hk]
      exact isb_app (isb_app (isb_app (isb_app (isb_32 _) (isb_16 _)) (isb_16 _)) (isb_32 _)) hB.body
    · rw [if_neg (by omega), if_pos hk]
      exact isb_app (isb_app (isb_app (isb_app (isb_app (isb_32 _) (isb_16 _)) (isb_16 _)) (isb_32 _)) (isb_32 _)) hB.body
  unfold cB
  refine isb_app (isb_app (isb_app (fun y hy => ?_) (isb_16 _)) hb) (isb_rep _)
  simp at hy
  omega
set_option maxRecDepth 100000 in
theorem fits_one (ad : Addr) (cp : Nat) (w : World) : Calls Try.prog 17 #[.slice (some ad) 1 cp] w fun e w' => e = .returned (.bool true) ∧ w' = w := by
  go_enter Try.func17, Try.ntmps17
  go_wp2
  go_ret
  exact ⟨rfl, rfl⟩
theorem SlB.cap {w : World} {lo hi : Nat} {A : Option Addr} {n c : Nat} {xs : List Int} (h : SlB w lo hi (.slice A n c) xs) : c ≤ maxLen := by
  obtain ⟨A', c', e, h1, h2, h3, h4⟩ := h
  injection e with e1 e2 e3
  omega
theorem WtrN.bel {w w' : World} {base g : Nat} {bs : List Int} (h : WtrN w base g bs) (f : Below w.heap.size w w') : WtrN w' base g bs := h.fr (Fr.of_below (S := nothing) f) (fun _ _ h => h)
set_option maxHeartbeats 4000000 in
set_option maxRecDepth 100000 in
theorem pput_one (lo hi : Nat) (ad : Addr) (cp : Nat) (cs : List Value) (c : Ck) (w : World) (hrow : ∀ j v, cs[j]? = some v → w.cell? (ad.add j) = some v) (hadb : ad.block < w.heap.size) (hC : CkV w lo hi cs.toArray c) (hhi : hi ≤ w.heap.size) (hBd : CkB c) (hL : CkL c) (hE : cE c = 0) (hlen : (cB c).length ≤ 1188) (hbb : IsB (cB c)) :
    Calls Try.prog 13 #[.agg #[.int .u16 0, .int .u16 0, .int .u32 0, .slice (some ad) 1 cp]] w fun e w' => Below w.heap.size w w' ∧ ∃ v, e = .returned (.tuple #[v, .int .i64 0]) := by
  have hup := Try.underlying42
  have hsz : cs.length = 19 := by have := hC.size; simpa using this
  have hone : cs.all (·.oneCell') = true := by have := hC.one; rw [← Array.all_toList] at this; exact this
  have B0 : Below w.heap.size w (w.alloc (.cells #[.int .u16 0, .int .u16 0, .int .u32 0, .slice (some ad) 1 cp] 49)) := (Below.refl _ w).alloc (Nat.le_refl _) _
  have bP := Blk.new w #[.int .u16 0, .int .u16 0, .int .u32 0, .slice (some ad) 1 cp] 49
  have cp0 := bP.cell 0
  have cp1 := bP.cell 1
  have cp2 := bP.cell 2
  have cp3 := bP.cell 3
  simp at cp0 cp1 cp2 cp3
  go_enter Try.func13, Try.ntmps13
  go_wp2_with fail
  refine (fits_one ad cp _).mono ?_
  rintro e wf ⟨rfl, hwf⟩
  rw [hwf]
  clear hwf wf
  generalize w.alloc (.cells #[.int .u16 0, .int .u16 0, .int .u32 0, .slice (some ad) 1 cp] 49) = w1 at *
  have WO := WtrN.new w1
  have T := (Below.refl w1.heap.size w1).alloc (Nat.le_refl _) (.cells #[.slice none 0 0] 61)
  have KP := Lib.hid (fun w' (f : Below w1.heap.size w1 w') => bP.fr (Bl.fr f) (fun h => by have := bP.lt; omega))
  clear bP
  clear cp0 cp1 cp2 cp3
  have bP := KP.out _ T
  have cp0 := bP.cell 0
  have cp1 := bP.cell 1
  have cp2 := bP.cell 2
  have cp3 := bP.cell 3
  simp at cp0 cp1 cp2 cp3
  go_wp2_with fail
  refine (u16n_calls _ _ _ _ _ WO (by simp)).mono ?_
  rintro e w2 ⟨rfl, W2, f⟩
  replace T := Bl.trans T f
  clear WO f bP
  have WO := W2
  clear W2
  clear cp0 cp1 cp2 cp3
  have bP := KP.out _ T
  have cp0 := bP.cell 0
  have cp1 := bP.cell 1
  have cp2 := bP.cell 2
  have cp3 := bP.cell 3
  simp at cp0 cp1 cp2 cp3
  go_wp2_with fail
  refine (u16n_calls _ _ _ _ _ WO (by simp)).mono ?_
  rintro e w3 ⟨rfl, W2, f⟩
  replace T := Bl.trans T f
  clear WO f bP
  have WO := W2
  clear W2
  clear cp0 cp1 cp2 cp3
  have bP := KP.out _ T
  have cp0 := bP.cell 0
  have cp1 := bP.cell 1
  have cp2 := bP.cell 2
  have cp3 := bP.cell 3
  simp at cp0 cp1 cp2 cp3
  go_wp2_with fail
  refine (u32n_calls _ _ _ _ _ WO (by simp)).mono ?_
  rintro e w4 ⟨rfl, W2, f⟩
  replace T := Bl.trans T f
  clear WO f bP
  have WO := W2
  clear W2
  clear cp0 cp1 cp2 cp3
  have bP := KP.out _ T
  have cp0 := bP.cell 0
  have cp1 := bP.cell 1
  have cp2 := bP.cell 2
  have cp3 := bP.cell 3
  simp at cp0 cp1 cp2 cp3
  go_wp2_with fail
  refine (u32n_calls _ _ _ _ _ WO (by simp)).mono ?_
  rintro e w5 ⟨rfl, W2, f⟩
  replace T := Bl.trans T f
  clear WO f bP
  have WO := W2
  clear W2
  clear cp0 cp1 cp2 cp3
  have bP := KP.out _ T
  have cp0 := bP.cell 0
  have cp1 := bP.cell 1
  have cp2 := bP.cell 2
  have cp3 := bP.cell 3
  simp at cp0 cp1 cp2 cp3
  obtain ⟨hd, hhd⟩ : ∃ hd : List Int, hd = List.replicate 12 0 := ⟨_, rfl⟩
  have WH : WtrN w5 w1.heap.size w1.heap.size hd := by rw [hhd]; exact WO
  have hhl : hd.length = 12 := by rw [hhd]; rfl
  have HHD := Lib.hid hhd
  clear WO hhd
  go_wp2_with fail
  go_loopw [28] (fun i wr => ∃ j : Nat, j ≤ 1 ∧ i = .int .i64 j ∧ WtrN wr w1.heap.size w1.heap.size (if j = 0 then hd else hd ++ cB c) ∧ Below w1.heap.size w1 wr) (fun i _ => 1 - (intOf i).toNat)
  case atStart => exact ⟨0, by omega, rfl, by simpa using WH, T⟩
  case round =>
    clear WH T bP cp0 cp1 cp2 cp3
    obtain ⟨j, hj, rfl, WO, T⟩ := hrel
    by_cases h0 : j = 0
    · subst h0
      have WH : WtrN wr w1.heap.size w1.heap.size hd := by simpa using WO
      clear WO
      have hrow2 : ∀ i v, cs[i]? = some v → wr.cell? (ad.add i) = some v := fun i v hv => cell_fr (Bl.fr (Bl.trans B0 (Bl.low T B0.size))) (hrow i v hv) (by rw [add_block]; omega)
      have hC2 := hC.bl (Bl.trans B0 (Bl.low T B0.size)) hhi
      have hwr : w1.heap.size ≤ wr.heap.size := T.size
      go_upto_region 10 with fail
      refine wp_region_lit ?_
      refine wpList_plain rfl (fun K hK => ?_)
      go_simp
      refine hK _ _ ?_
      clear hK K
      refine wpList_plain rfl (fun K hK => ?_)
      refine FragCounts.oper_load_at rfl rfl (cs := cs) (by simpa using hrow2) hup (by rw [hsz]; kernel_rfl) ?_
      refine hK _ _ ?_
      clear hK K
      refine wpList_plain rfl (fun K hK => ?_)
      go_simp
      refine hK _ _ ?_
      clear hK K
      refine wpList_plain rfl (fun K hK => ?_)
      refine oper_store (cs0 := #[.int .u8 0, .bool false, .bool false, .bool false, .bool false, .int .u32 0, .int .u16 0, .int .u32 0, .int .u32 0, .int .u32 0, .int .u32 0, .int .u32 0, .int .u16 0, .int .u16 0, .slice none 0 0, .slice none 0 0, .slice none 0 0, .slice none 0 0, .slice none 0 0]) (cs := cs.toArray) rfl rfl rfl (Blk.new wr #[.int .u8 0, .bool false, .bool false, .bool false, .bool false, .int .u32 0, .int .u16 0, .int .u32 0, .int .u32 0, .int .u32 0, .int .u32 0, .int .u32 0, .int .u16 0, .int .u16 0, .slice none 0 0, .slice none 0 0, .slice none 0 0, .slice none 0 0, .slice none 0 0] 42) (by rw [List.size_toArray, hsz]; kernel_rfl) (by simpa using hsz.symm) hC.one ?_
      refine hK _ _ ?_
      clear hK K
      refine wpList_nil ?_
      have bC : Blk ((wr.alloc (.cells #[.int .u8 0, .bool false, .bool false, .bool false, .bool false, .int .u32 0, .int .u16 0, .int .u32 0, .int .u32 0, .int .u32 0, .int .u32 0, .int .u32 0, .int .u16 0, .int .u16 0, .slice none 0 0, .slice none 0 0, .slice none 0 0, .slice none 0 0, .slice none 0 0] 42)).setRow wr.heap.size cs.toArray) wr.heap.size 42 cs.toArray := blk_row cs.toArray (Blk.new wr #[.int .u8 0, .bool false, .bool false, .bool false, .bool false, .int .u32 0, .int .u16 0, .int .u32 0, .int .u32 0, .int .u32 0, .int .u32 0, .int .u32 0, .int .u16 0, .int .u16 0, .slice none 0 0, .slice none 0 0, .slice none 0 0, .slice none 0 0, .slice none 0 0] 42)
      have F4 : Fr nothing wr ((wr.alloc (.cells #[.int .u8 0, .bool false, .bool false, .bool false, .bool false, .int .u32 0, .int .u16 0, .int .u32 0, .int .u32 0, .int .u32 0, .int .u32 0, .int .u32 0, .int .u16 0, .int .u16 0, .slice none 0 0, .slice none 0 0, .slice none 0 0, .slice none 0 0, .slice none 0 0] 42)).setRow wr.heap.size cs.toArray) := ((Fr.refl nothing wr).alloc _).trans (fr_row wr.heap.size cs.toArray) (fun k hk h => by have h9 : k = wr.heap.size := h; omega)
      generalize (wr.alloc (.cells #[.int .u8 0, .bool false, .bool false, .bool false, .bool false, .int .u32 0, .int .u16 0, .int .u32 0, .int .u32 0, .int .u32 0, .int .u32 0, .int .u32 0, .int .u16 0, .int .u16 0, .slice none 0 0, .slice none 0 0, .slice none 0 0, .slice none 0 0, .slice none 0 0] 42)).setRow wr.heap.size cs.toArray = w6 at *
      have B6 := Bl.trans T (Bl.of_fr F4 T.size (fun k h => h.elim))
      have W6 := WH.fr F4 (fun _ _ h => h)
      have hC6 := hC2.fr F4 (fun _ _ _ h => h)
      have hw6 : w.heap.size ≤ w6.heap.size := by have := B0.size; have := B6.size; omega
      have CP := cput_calls lo hi cs.toArray c w6 hC6 (by omega) hBd hL
      unfold PutC at CP
      rw [cO_ok hE, hE] at CP
      have HCP := Lib.hid CP
      clear CP WH hrow2 hC2 F4
      go_upto_region 11 with fail
      refine wp_region_lit ?_
      refine wpList_plain rfl (fun K hK => ?_)
      refine oper_load rfl rfl bC hup rfl (by rw [List.size_toArray, hsz]; kernel_rfl) ?_
      refine hK _ _ ?_
      clear hK K
      go_wp2_with fail
      refine HCP.out.mono ?_
      rintro e w7 ⟨B7, A7, p7, rfl, o7⟩
      have B8 := Bl.trans B6 (Bl.low B7 B6.size)
      have W7 := WtrN.bel W6 B7
      clear HCP W6 B6 bC
      go_wp2_with fail
      refine (putn_calls _ _ _ _ _ _ (cB c) _ W7 (SlB.of_own o7) (by omega)).mono ?_
      rintro e w8 ⟨rfl, W8, f8⟩
      have HW8 := Lib.hid W8
      have HB8 := Lib.hid (Bl.trans B8 f8)
      clear W8 W7 B8 f8 o7 T
      go_wp2
      go_roundw
      case rel => exact ⟨1, by omega, by go_num, by simpa using HW8.out, HB8.out⟩
      case measure => simp [intOf]
    · obtain rfl : j = 1 := by omega
      have WH : WtrN wr w1.heap.size w1.heap.size (hd ++ cB c) := by simpa using WO
      have hzl : (hd ++ cB c).length ≤ 1200 := by rw [List.length_append]; omega
      have hzl2 : 12 ≤ (hd ++ cB c).length := by rw [List.length_append]; omega
      have hzb : IsB (hd ++ cB c) := isb_app (by rw [HHD.out]; exact isb_rep _) hbb
      generalize hd ++ cB c = zs at WH hzl hzl2 hzb
      clear WO
      go_wp2_with fail
      refine (lenn_calls _ _ _ _ WH).mono ?_
      rintro e w9 ⟨rfl, hw9⟩
      rw [hw9]
      clear hw9 w9
      have hgt : decide ((1200 : Int) < zs.length) = false := decide_eq_false (by omega)
      go_wp2_with fail
      refine (outn_calls _ _ _ _ WH (by omega)).mono ?_
      rintro e w10 ⟨Az, nz, pz, rfl, rfl, -, oz, -, f10⟩
      have BT := Bl.trans T (Bl.low f10 T.size)
      have X := SlB.of_own oz
      have hcz := SlB.cap X
      have HS := Lib.hid (Crc.seal_calls _ _ Az pz zs 8 w10 X (by omega) (by simpa [maxLen] using hcz) hzb (by omega))
      clear X oz WH T f10 hgt
      go_wp2_with fail
      refine HS.out.mono ?_
      rintro e w11 ⟨Bq, cq, rfl, -, B11⟩
      go_wp2
      go_ret2
      exact ⟨Bl.trans (Bl.trans B0 (Bl.low BT B0.size)) (Bl.low B11 (by have := B0.size; have := BT.size; omega)), _, rfl⟩
end Go.Proofs.Ytnhkmapeleomkaa.Pkt
