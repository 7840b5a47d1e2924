/- The contract of flumelaw06.first. No conditions. -/
import Derived.Test.YtaifihoheieneaaZChkReads
import Derived.Test.YtaifihoheieneaaZChkPut
import Derived.Test.YtaifihoheieneaaZChkLaw
import Derived.Test.YtaifihoheieneaaZChkMath
import Derived.IntWalk
namespace Go.Proofs.Ytaifihoheieneaa.Chk
open Go.RowKit Go.Proofs.Ytaifihoheieneaa.Mem Go.Proofs.Ytaifihoheieneaa.Octet Go.Proofs.Ytaifihoheieneaa.Prm
set_option linter.unusedVariables false
set_option linter.unusedSimpArgs false
def fc7 : Ck := { zC 7 with tsn := 5 }
theorem fst_cE7 : cE fc7 = 0 := by kernel_rfl
theorem fst_cB7 : cB fc7 = [7, 0, 0, 8, 0, 0, 0, 5] := by kernel_rfl
theorem fst_cE0 : cE (zC 0) = 42 := by kernel_rfl
theorem fst_gE : gE [7, 0, 0, 8, 0, 0, 0, 5] = 0 := by kernel_rfl
theorem fst_gN : gN [7, 0, 0, 8, 0, 0, 0, 5] = 8 := by kernel_rfl
theorem fst_tsn : (gCk [7, 0, 0, 8, 0, 0, 0, 5]).tsn = 5 := by kernel_rfl
theorem fst_isb : IsB [7, 0, 0, 8, 0, 0, 0, 5] := by intro x hx; simp at hx; omega
theorem fst_str : bstr [7, 0, 0, 8, 0, 0, 0, 5] = ⟨#[7, 0, 0, 8, 0, 0, 0, 5]⟩ := by kernel_rfl
theorem z_32 : (0 : Int) ≤ 0 ∧ (0 : Int) < 4294967296 := by decide
theorem z_16 : (0 : Int) ≤ 0 ∧ (0 : Int) < 65536 := by decide
theorem ckb_z {k t : Int} (hk : 0 ≤ k ∧ k < 256) (ht : 0 ≤ t ∧ t < 4294967296) : CkB { zC k with tsn := t } :=
  ⟨hk, ht, z_16, z_32, z_32, z_32, z_32, z_32, z_16, z_16, fun g h => (nomatch h), fun g h => (nomatch h), fun g h => (nomatch h), fun g h => (nomatch h), fun g h => (nomatch h)⟩
theorem ckl_z {k t : Int} : CkL { zC k with tsn := t } :=
  ⟨by show 0 ≤ 1000000000; omega, by show 0 ≤ 1000000000; omega, by show 0 ≤ 1000000000; omega, by show 0 ≤ 1000000000; omega, by show 0 ≤ 1000000000; omega, by show 0 ≤ 1000000000; omega⟩
theorem ckv_z (w : World) (lo hi : Nat) (k t : Int) : CkV w lo hi (ckA k false false false false t 0 0 0 0 0 0 0 0 (.slice none 0 0) (.slice none 0 0) (.slice none 0 0) (.slice none 0 0) (.slice none 0 0)) { zC k with tsn := t } :=
  ⟨rfl, ckA_one rfl rfl rfl rfl rfl, rfl, rfl, rfl, rfl, rfl, rfl, rfl, rfl, rfl, rfl, rfl, rfl, rfl, rfl, ⟨none, 0, rfl, fun i h => absurd (show i < 0 from h) (Nat.not_lt_zero i)⟩, ⟨none, 0, rfl, fun i h => absurd (show i < 0 from h) (Nat.not_lt_zero i)⟩, ⟨none, 0, rfl, fun i h => absurd (show i < 0 from h) (Nat.not_lt_zero i)⟩, ⟨none, 0, rfl, fun i h => absurd (show i < 0 from h) (Nat.not_lt_zero i)⟩, ⟨none, 0, rfl, nilv _ _ _⟩⟩
set_option maxHeartbeats 4000000 in
set_option maxRecDepth 100000 in
theorem first_calls (w : World) : Calls Try.prog 10 #[] w fun e w' => e = .returned (.bool true) ∧ Below w.heap.size w w' := by
  have hup := Try.underlying31
  have C1 := cput_calls 0 w.heap.size _ fc7 w (ckv_z w 0 w.heap.size 7 5) (Nat.le_refl _) (ckb_z (by decide) (by decide)) ckl_z
  unfold PutC at C1
  rw [cO_ok fst_cE7, fst_cE7, fst_cB7] at C1
  have HC1 := Lib.hid C1
  have C3 := fun w => cput_calls 0 w.heap.size _ (zC 0) w (ckv_zero w 0 w.heap.size 0) (Nat.le_refl _) (ckb_z (k := 0) (t := 0) (by decide) (by decide)) (ckl_z (k := 0) (t := 0))
  unfold PutC at C3
  rw [cO_bad (by rw [fst_cE0]; decide), fst_cE0] at C3
  have HC3 := Lib.hid C3
  clear C1 C3
  go_enter Try.func10, Try.ntmps10
  go_wp2_with fail
  refine HC1.out.mono ?_
  rintro e w1 ⟨B1, A1, p1, rfl, o1⟩
  clear HC1
  have C2 := cget_calls _ _ _ [7, 0, 0, 8, 0, 0, 0, 5] w1 (SlB.of_own o1) (Nat.le_refl _) fst_isb (by simp)
  unfold GetC at C2
  rw [fst_gE, fst_gN] at C2
  have HC2 := Lib.hid C2
  clear C2
  go_upto_region 2 with fail
  refine wp_region_lit ?_
  refine wpList_plain rfl (fun K hK => ?_)
  go_simp
  refine hK _ _ ?_
  clear hK K
  refine wpList_plain rfl (fun K hK => ?_)
  go_simp
  go_at_call 18
  refine HC2.out.mono ?_
  rintro e w2 ⟨B2, cs, rfl, hck⟩
  simp only []
  refine hK _ _ ?_
  clear hK K HC2
  have hsz := hck.size
  have HCK := Lib.hid hck
  have o2 := OwnB.fr o1 (Fr.of_below (S := nothing) B2) (fun _ _ h => h)
  have B3 := Bl.trans B1 (Bl.low B2 B1.size)
  clear hck o1 B1 B2
  refine wpList_plain rfl (fun K hK => ?_)
  go_simp
  refine hK _ _ ?_
  clear hK K
  refine wpList_plain rfl (fun K hK => ?_)
  go_simp
  refine hK _ _ ?_
  clear hK K
  refine wpList_plain rfl (fun K hK => ?_)
  go_simp
  refine hK _ _ ?_
  clear hK K
  refine wpList_plain rfl (fun K hK => ?_)
  go_simp
  refine hK _ _ ?_
  clear hK K
  refine wpList_plain rfl (fun K hK => ?_)
  go_simp
  refine hK _ _ ?_
  clear hK K
  refine wpList_plain rfl (fun K hK => ?_)
  refine Mem.oper_store (cs0 := zch) (cs := cs) rfl rfl rfl (Blk.new w2 zch 31) (by rw [hsz]; kernel_rfl) (by rw [hsz]; rfl) HCK.out.one ?_
  refine hK _ _ ?_
  clear hK K
  refine wpList_plain rfl (fun K hK => ?_)
  go_simp
  refine hK _ _ ?_
  clear hK K
  refine wpList_plain rfl (fun K hK => ?_)
  go_simp
  refine hK _ _ ?_
  clear hK K
  refine wpList_nil ?_
  have bC : Blk ((w2.alloc (.cells zch 31)).setRow w2.heap.size cs) w2.heap.size 31 cs := blk_row cs (Blk.new w2 zch 31)
  have F4 : Fr nothing w2 ((w2.alloc (.cells zch 31)).setRow w2.heap.size cs) := ((Fr.refl nothing w2).alloc _).trans (fr_row w2.heap.size cs) (fun k hk h => by have h9 : k = w2.heap.size := h; omega)
  generalize (w2.alloc (.cells zch 31)).setRow w2.heap.size cs = w3 at *
  have o3 := OwnB.fr o2 F4 (fun _ _ h => h)
  have B5 := Bl.trans B3 (Bl.of_fr F4 B3.size (fun k h => h.elim))
  generalize w2.heap.size = gK at *
  clear o2 B3 F4
  go_wp2_with fail
  refine (HC3.out _).mono ?_
  rintro e w4 ⟨B6, A6, p6, rfl, -⟩
  have bC2 := bC.fr (Fr.of_below (S := nothing) B6) id
  have B7 := Bl.trans B5 (Bl.low B6 B5.size)
  have kt : (convert 29 9 (.slice A1 8 p1)).run Try.prog w4 = .ok (.string (bstr [7, 0, 0, 8, 0, 0, 0, 5])) w4 := slb_str (SlB.of_own (OwnB.fr o3 (Fr.of_below (S := nothing) B6) (fun _ _ h => h)))
  rw [fst_str] at kt
  have c5 : w4.cell? ⟨gK, 5, none⟩ = some (.int .u32 5) := by rw [bC2.cell 5, HCK.out.c5, fst_tsn]
  have CK := known_calls 13 w4
  rw [show kn 13 = false from rfl] at CK
  have HKN := Lib.hid CK
  have HB7 := Lib.hid B7
  clear bC bC2 o3 B5 B6 B7 HC3 CK
  go_wp2_with fail
  refine HKN.out.mono ?_
  rintro e w5 ⟨rfl, hw5⟩
  rw [hw5]
  clear hw5
  go_wp2
  go_ret
  exact ⟨rfl, HB7.out⟩
end Go.Proofs.Ytaifihoheieneaa.Chk
namespace Go.Proofs.Ytaifihoheieneaa.Chk
open Go.RowKit Go.Proofs.Ytaifihoheieneaa.Mem Go.Proofs.Ytaifihoheieneaa.Octet Go.Proofs.Ytaifihoheieneaa.Prm
set_option linter.unusedVariables false
set_option linter.unusedSimpArgs false
/-- A row of its own: its cells, stored into. -/
theorem own_row {w : World} {m : Nat} {A : Option Addr} {n cap : Nat} {bs : List Int} (h : OwnB w m 5 (.slice A n cap) bs) (h0 : 0 < bs.length) :
    ∃ g, A = some ⟨g, 0, none⟩ ∧ m ≤ g ∧ n = bs.length ∧ ∀ k (hk : k < bs.length), w.cell? ⟨g, k, none⟩ = some (.int .u8 bs[k]) ∧ w.frozen? ⟨g, k, none⟩ = false ∧
      ∀ x, OwnB (w.setCell ⟨g, k, none⟩ (.int .u8 x)) m 5 (.slice (some ⟨g, 0, none⟩) n cap) (bs.set k x) := by
  rcases h.2 with ⟨e, h1⟩ | ⟨g, cap', cur, e, hb, hg, hn, hm, hs, ht⟩
  · omega
  · injection e with e1 e2 e3
    subst e1; subst e2; subst e3
    have h' : w.ownsRow m 5 1 (.slice (some ⟨g, 0, none⟩) bs.length cap) bs.length (byts bs) := h
    refine ⟨g, rfl, hb, rfl, fun k hk => ⟨?_, h'.frozenAt k, fun x => ?_⟩⟩
    · rw [h'.cellAt k (by omega)]; simp [byts, hk]
    · have s := (h'.stored k (.int .u8 x)).1
      unfold OwnB
      rw [List.length_set]
      simpa [byts, List.map_set] using s
theorem f_bits (F : Fin 256) : (bits .and .u8 ((F.val : Nat) : Int) 1 != 0) = flE (F.val : Nat) ∧ (bits .and .u8 ((F.val : Nat) : Int) 2 != 0) = flB (F.val : Nat) ∧ (bits .and .u8 ((F.val : Nat) : Int) 4 != 0) = flL (F.val : Nat) := by
  revert F; decide +kernel
theorem f_bits' {f : Int} (h : 0 ≤ f ∧ f < 256) : (bits .and .u8 f 1 != 0) = flE f ∧ (bits .and .u8 f 2 != 0) = flB f ∧ (bits .and .u8 f 4 != 0) = flL f := by
  have := f_bits ⟨f.toNat, by omega⟩
  rwa [show ((f.toNat : Nat) : Int) = f by omega] at this
end Go.Proofs.Ytaifihoheieneaa.Chk
