/- Contract of flumeref06.Same of two chunks alike. Conditions: their lists lie in blocks of before. -/
import Derived.Test.YtaifihoheieneaaZChkRBase
import Derived.Test.YtaifihoheieneaaZPrmMath
import Derived.Deep.QuietTactic
import Derived.Test.YtaifihoheieneaaZChkList
import Derived.Test.YtaifihoheieneaaZChkMath
import Derived.Laws.ResultCell
import Derived.Test.YtaifihoheieneaaZChkReads
namespace Go.Proofs.Ytaifihoheieneaa.Chk
open Go.RowKit Go.Proofs.Ytaifihoheieneaa.Mem Go.Proofs.Ytaifihoheieneaa.Octet Go.Proofs.Ytaifihoheieneaa.Prm
set_option linter.unusedVariables false
set_option linter.unusedSimpArgs false
set_option maxHeartbeats 4000000 in
set_option maxRecDepth 100000 in
theorem rsame_calls (lo hi lo2 hi2 : Nat) (csA csB : Array Value) (c : Ck) (w : World) (hA : CkV w lo hi csA c) (hB : CkV w lo2 hi2 csB c) (hhi : hi ≤ w.heap.size) (hhi2 : hi2 ≤ w.heap.size) (hBd : CkB c) (hL : CkL c) :
    Calls Try.prog 15 #[.agg csA, .agg csB] w fun e w' => e = .returned (.bool true) ∧ Below w.heap.size w w' := by
  have l14 := hL.gaps
  have l15 := hL.dups
  have l16 := hL.skips
  have l17 := hL.pl
  have l18 := hL.body
  have B1 : Below w.heap.size w (w.alloc (.cells csA 31)) := (Below.refl _ w).alloc (Nat.le_refl _) _
  have B2 : Below w.heap.size w ((w.alloc (.cells csA 31)).alloc (.cells csB 31)) := B1.alloc (by simp) _
  have bA := (Blk.new w csA 31).alloc (.cells csB 31)
  have bB : Blk ((w.alloc (.cells csA 31)).alloc (.cells csB 31)) (w.heap.size + 1) 31 csB := by simpa using Blk.new (w.alloc (.cells csA 31)) csB 31
  obtain ⟨A14, p14, eA14, GA⟩ := (hA.bl B2 hhi).c14
  obtain ⟨A15, p15, eA15, DA⟩ := (hA.bl B2 hhi).c15
  obtain ⟨A16, p16, eA16, SA⟩ := (hA.bl B2 hhi).c16
  obtain ⟨A17, p17, eA17, PA⟩ := (hA.bl B2 hhi).c17
  obtain ⟨A18, p18, eA18, YA⟩ := (hA.bl B2 hhi).c18
  obtain ⟨B14, q14, eB14, GB⟩ := (hB.bl B2 hhi2).c14
  obtain ⟨B15, q15, eB15, DB⟩ := (hB.bl B2 hhi2).c15
  obtain ⟨B16, q16, eB16, SB⟩ := (hB.bl B2 hhi2).c16
  obtain ⟨B17, q17, eB17, PB⟩ := (hB.bl B2 hhi2).c17
  obtain ⟨B18, q18, eB18, YB⟩ := (hB.bl B2 hhi2).c18
  have a0 := (bA.cell 0).trans hA.c0
  have b0 := (bB.cell 0).trans hB.c0
  have a1 := (bA.cell 1).trans hA.c1
  have b1 := (bB.cell 1).trans hB.c1
  have a2 := (bA.cell 2).trans hA.c2
  have b2 := (bB.cell 2).trans hB.c2
  have a3 := (bA.cell 3).trans hA.c3
  have b3 := (bB.cell 3).trans hB.c3
  have a4 := (bA.cell 4).trans hA.c4
  have b4 := (bB.cell 4).trans hB.c4
  have a5 := (bA.cell 5).trans hA.c5
  have b5 := (bB.cell 5).trans hB.c5
  have a6 := (bA.cell 6).trans hA.c6
  have b6 := (bB.cell 6).trans hB.c6
  have a7 := (bA.cell 7).trans hA.c7
  have b7 := (bB.cell 7).trans hB.c7
  have a8 := (bA.cell 8).trans hA.c8
  have b8 := (bB.cell 8).trans hB.c8
  have a9 := (bA.cell 9).trans hA.c9
  have b9 := (bB.cell 9).trans hB.c9
  have a10 := (bA.cell 10).trans hA.c10
  have b10 := (bB.cell 10).trans hB.c10
  have a11 := (bA.cell 11).trans hA.c11
  have b11 := (bB.cell 11).trans hB.c11
  have a12 := (bA.cell 12).trans hA.c12
  have b12 := (bB.cell 12).trans hB.c12
  have a13 := (bA.cell 13).trans hA.c13
  have b13 := (bB.cell 13).trans hB.c13
  have a14 := (bA.cell 14).trans eA14
  have b14 := (bB.cell 14).trans eB14
  have a15 := (bA.cell 15).trans eA15
  have b15 := (bB.cell 15).trans eB15
  have a16 := (bA.cell 16).trans eA16
  have b16 := (bB.cell 16).trans eB16
  have a17 := (bA.cell 17).trans eA17
  have b17 := (bB.cell 17).trans eB17
  have a18 := (bA.cell 18).trans eA18
  have b18 := (bB.cell 18).trans eB18
  have hAs := hA.size
  have hBs := hB.size
  have CS := Prm.same_calls _ _ _ _ A17 B17 p17 q17 c.ps c.ps _ PA PB hBd.ps hBd.ps (by omega)
  rw [decide_eq_true (rfl : c.ps = c.ps)] at CS
  have HCS := Lib.hid CS
  have tA0 := fun (w' : World) (f : Fr nothing ((w.alloc (.cells csA 31)).alloc (.cells csB 31)) w') => slb_str (SlB.fr YA f (fun _ _ _ h => h))
  have tB0 := fun (w' : World) (f : Fr nothing ((w.alloc (.cells csA 31)).alloc (.cells csB 31)) w') => slb_str (SlB.fr YB f (fun _ _ _ h => h))
  have HT := Lib.hid (And.intro tA0 tB0)
  have HL := Lib.hid (And.intro GA (And.intro GB (And.intro DA (And.intro DB (And.intro SA SB)))))
  have HBB := Lib.hid (And.intro bA (And.intro bB B2))
  clear CS tA0 tB0 GA GB DA DB SA SB PA PB YA YB bA bB B1 B2 hA hB
  obtain ⟨k0, b0', e0, l0, r0, tsn, st, mid, pp, fr, tag, win, out, inn, gaps, dups, skips, ps, body⟩ := c
  simp only at *
  go_enter Try.func15, Try.ntmps15
  go_wp2_with fail
  refine HCS.out.mono ?_
  rintro e1 w1 ⟨rfl, B3⟩
  have F3 : Fr nothing ((w.alloc (.cells csA 31)).alloc (.cells csB 31)) w1 := Fr.of_below (S := nothing) B3
  obtain ⟨bA, bB, B2⟩ := HBB.out
  have tA := HT.out.1 _ F3
  have tB := HT.out.2 _ F3
  have bA1 := bA.fr F3 id
  have bB1 := bB.fr F3 id
  have B4 := Bl.trans B2 (Bl.of_fr F3 B2.size (fun k h => h.elim))
  have GA := GapC.fr HL.out.1 F3 (fun _ _ _ h => h)
  have GB := GapC.fr HL.out.2.1 F3 (fun _ _ _ h => h)
  have DA := DupC.fr HL.out.2.2.1 F3 (fun _ _ _ h => h)
  have DB := DupC.fr HL.out.2.2.2.1 F3 (fun _ _ _ h => h)
  have SA := SkpC.fr HL.out.2.2.2.2.1 F3 (fun _ _ _ h => h)
  have SB := SkpC.fr HL.out.2.2.2.2.2 F3 (fun _ _ _ h => h)
  have a18' := (bA1.cell 18).trans eA18
  have b18' := (bB1.cell 18).trans eB18
  have a14' := (bA1.cell 14).trans eA14
  have HLL := Lib.hid (And.intro GA (And.intro GB (And.intro DA (And.intro DB (And.intro SA SB)))))
  clear HT HL HBB HCS GA GB DA DB SA SB bA bB B2 F3 B3
  have HB1 := Lib.hid (And.intro bA1 (And.intro bB1 B4))
  clear bA1 bB1 B4
  -- 149 slot, 14 field, gaps list, Fr.refl _ _ step, a18' b18' a14' tA tB the facts' projection of A,  of B,  cells
  go_wp2_with fail
  go_loopw [149] (fun i wr => ∃ k : Nat, k ≤ (gaps).length ∧ i = .int .i64 k ∧ Fr nothing w1 wr) (fun i _ => (gaps).length - (intOf i).toNat)
  case atStart => exact ⟨0, Nat.zero_le _, rfl, Fr.refl _ _⟩
  case round =>
  clear a18' b18' a14' tA tB
  obtain ⟨k, hk, rfl, hF⟩ := hrel
  have a14' := ((HB1.out.1.fr hF id).cell 14).trans eA14
  have b14' := ((HB1.out.2.1.fr hF id).cell 14).trans eB14
  by_cases hlt : k < gaps.length
  · obtain ⟨a1, rfl, -, -, g1, g2⟩ := (HLL.out.1.fr hF (fun _ _ _ h => h)) k hlt
    obtain ⟨a2, rfl, -, -, g3, g4⟩ := (HLL.out.2.1.fr hF (fun _ _ _ h => h)) k hlt
    rw [add_add_ _ _ _ (by decide)] at g2 g4
    generalize gaps[k] = s at g1 g2 g3 g4
    obtain ⟨x, y⟩ := s
    have hkl : (k : Int) < (gaps).length := by omega
    (try simp only at g1 g2 g3 g4)
    go_wp2_with fail
    go_quiet (fail)
    go_wp2
    go_roundw
    case rel => exact ⟨k + 1, by omega, by go_num, hF.drewN _⟩
    case measure => simp [intOf]; omega
  have hkl : ¬ (k : Int) < gaps.length := by omega
  have a15' := ((HB1.out.1.fr hF id).cell 15).trans eA15
  have HF := Lib.hid hF
  clear hF b14'
  -- 167 slot, 15 field, dups list, HF.out step, a14' a15' hkl hlt hk HF the facts' projection of A,  of B,  cells
  go_wp2_with fail
  go_loopw [167] (fun i wr => ∃ k : Nat, k ≤ (dups).length ∧ i = .int .i64 k ∧ Fr nothing w1 wr) (fun i _ => (dups).length - (intOf i).toNat)
  case atStart => exact ⟨0, Nat.zero_le _, rfl, HF.out⟩
  case round =>
  clear a14' a15' hkl hlt hk HF
  obtain ⟨k, hk, rfl, hF⟩ := hrel
  have a15' := ((HB1.out.1.fr hF id).cell 15).trans eA15
  have b15' := ((HB1.out.2.1.fr hF id).cell 15).trans eB15
  by_cases hlt : k < dups.length
  · obtain ⟨a1, rfl, -, -, g1⟩ := (HLL.out.2.2.1.fr hF (fun _ _ _ h => h)) k hlt
    obtain ⟨a2, rfl, -, -, g3⟩ := (HLL.out.2.2.2.1.fr hF (fun _ _ _ h => h)) k hlt
    generalize dups[k] = x at g1 g3
    have hkl : (k : Int) < (dups).length := by omega
    (try simp only at g1 g3)
    go_wp2_with fail
    go_quiet (fail)
    go_wp2
    go_roundw
    case rel => exact ⟨k + 1, by omega, by go_num, hF.drewN _⟩
    case measure => simp [intOf]; omega
  have hkl : ¬ (k : Int) < dups.length := by omega
  have a16' := ((HB1.out.1.fr hF id).cell 16).trans eA16
  have HF := Lib.hid hF
  clear hF b15'
  -- 185 slot, 16 field, skips list, HF.out step, a15' a16' hkl hlt hk HF the facts' projection of A,  of B,  cells
  go_wp2_with fail
  go_loopw [185] (fun i wr => ∃ k : Nat, k ≤ (skips).length ∧ i = .int .i64 k ∧ Fr nothing w1 wr) (fun i _ => (skips).length - (intOf i).toNat)
  case atStart => exact ⟨0, Nat.zero_le _, rfl, HF.out⟩
  case round =>
  clear a15' a16' hkl hlt hk HF
  obtain ⟨k, hk, rfl, hF⟩ := hrel
  have a16' := ((HB1.out.1.fr hF id).cell 16).trans eA16
  have b16' := ((HB1.out.2.1.fr hF id).cell 16).trans eB16
  by_cases hlt : k < skips.length
  · obtain ⟨a1, rfl, -, -, g1, g2, g5⟩ := (HLL.out.2.2.2.2.1.fr hF (fun _ _ _ h => h)) k hlt
    obtain ⟨a2, rfl, -, -, g3, g4, g6⟩ := (HLL.out.2.2.2.2.2.fr hF (fun _ _ _ h => h)) k hlt
    rw [add_add_ _ _ _ (by decide)] at g2 g4 g5 g6
    generalize skips[k] = s at g1 g2 g3 g4 g5 g6
    obtain ⟨x, y, z⟩ := s
    have hkl : (k : Int) < (skips).length := by omega
    (try simp only at g1 g2 g3 g4 g5 g6)
    go_wp2_with fail
    go_quiet (fail)
    go_wp2
    go_roundw
    case rel => exact ⟨k + 1, by omega, by go_num, hF.drewN _⟩
    case measure => simp [intOf]; omega
  have hkl : ¬ (k : Int) < skips.length := by omega
  have BF := Bl.trans HB1.out.2.2 (Bl.of_fr hF HB1.out.2.2.size (fun k h => h.elim))
  clear a16' b16'
  go_wp2
  go_ret
  exact ⟨rfl, BF⟩
end Go.Proofs.Ytaifihoheieneaa.Chk
namespace Go.Proofs.Ytaifihoheieneaa.Chk
open Go.RowKit Go.Proofs.Ytaifihoheieneaa.Mem Go.Proofs.Ytaifihoheieneaa.Octet Go.Proofs.Ytaifihoheieneaa.Prm
set_option linter.unusedVariables false
set_option linter.unusedSimpArgs false
section
variable {P : Program} (w : World)
theorem run_append_none_ (t ty e : TypeId) (i : TypeInfo) (ht : P.underlying t = some (.slice e)) (hi : P.info? e = some i) (base size : Nat) (v : Value) (n c : Nat) (xs : List Value) (hown : w.ownsRow base e size v n xs) :
    (Builtin.append_ #[t, t] ty #[v, .slice none 0 c]).run P w = .ok v w := by
  rcases hown.2 with ⟨rfl, h0⟩ | ⟨g, cap, cur, rfl, _, _, hnc, _⟩
  · simp [Builtin.append_, run_underlying ht, sizeOf, typeInfo, hi, Builtin.lenOf, Builtin.firstCells]
  · simp [Builtin.append_, run_underlying ht, sizeOf, typeInfo, hi, Builtin.lenOf, Builtin.firstCells, hnc, storeCells]
/-- append of a slice, nil or not. -/
theorem wpList_append_any {ops : Array Oper} {rest : List Oper} {o : Oper} {a : Act} {Q : Exit → Act → World → Prop} (hgd : o.guard = none) (s x : Operand) (t : TypeId)
    (ho : o.op = .call { callee := .builtin .append, args := #[s, x], argTypes := #[t, t] })
    (base : Nat) (e : TypeId) (i : TypeInfo) (z : Value) (size bytes : Nat) (ht : P.underlying t = some (.slice e)) (hi : P.info? e = some i) (hz : i.zero = some z) (hsize : i.size = size) (hby : i.bytes = bytes) (hzs : z.cells.size = size) (hsz : 0 < size)
    (v : Value) (n : Nat) (xs : List Value) (hs : a.eval s = v) (hown : w.ownsRow base e size v n xs)
    (A : Option Addr) (m c : Nat) (news : List Value) (hx : a.eval x = .slice A m c) (hA : A = none → m = 0) (hl : news.length = m * size) (hnews : ∀ ad, A = some ad → ∀ j u, news[j]? = some u → w.cell? (ad.add j) = some u) (h1 : ∀ u ∈ news, u.oneCell' = true)
    (h63 : n + m ≤ maxLen) (hbytes : (n + m) * bytes ≤ 140737488355328) (hbase : base ≤ w.heap.size)
    (h : ∀ v' w', w'.ownsRow base e size v' (n + m) (xs ++ news) → w.grownBy w' v.ownBlock → (v'.ownBlock = v.ownBlock ∨ v'.ownBlock = some w.heap.size) → wpList P ops Q rest (a.put o.dst v') w') : wpList P ops Q (o :: rest) a w := by
  refine wpList_plain hgd fun K hK => ?_
  rcases A with _ | ad
  · have hm := hA rfl
    subst hm
    have hn : news = [] := List.eq_nil_of_length_eq_zero (by omega)
    subst hn
    have hrun := run_append_none_ (P := P) w t o.type e i ht hi base size v n c xs hown
    unfold Oper.wp execOp
    simp only [ho, resolve, invoke, builtin, Sem.run_bind, Sem.run_pure, Result.andThen_ok, List.map_toArray, List.map_cons, List.map_nil, hs, hx, hrun]
    exact hK _ _ (h v w (by rw [List.append_nil, Nat.add_zero]; exact hown) ⟨rfl, rfl, rfl, Nat.le_refl _, fun _ _ _ => rfl⟩ (.inl rfl))
  · obtain ⟨v', w', hrun, h2, h3, _, h4⟩ := run_append_own_at (P := P) w base t o.type e i z size bytes ht hi hz hsize hby hzs hsz v n xs hown ad m c news hl (hnews ad rfl) h1 h63 hbytes hbase
    unfold Oper.wp execOp
    simp only [ho, resolve, invoke, builtin, Sem.run_bind, Sem.run_pure, Result.andThen_ok, List.map_toArray, List.map_cons, List.map_nil, hs, hx, hrun]
    exact hK _ _ (h v' w' h2 h3 h4)
theorem own_empty (e : TypeId) (size : Nat) : (w.alloc (.cells #[] e)).ownsRow w.heap.size e size (.slice (some ⟨w.heap.size, 0, none⟩) 0 0) 0 [] :=
  ⟨by simp, .inr ⟨w.heap.size, 0, #[], rfl, Nat.le_refl _, heap_alloc_new w _, Nat.le_refl _, Nat.zero_le _, by simp, by simp⟩⟩
end
theorem div2 (n : Nat) : n = n / 2 * 2 + n % 2 := by omega
theorem div3 (n : Nat) : n = n / 3 * 3 + n % 3 := by omega
theorem gcells_len (ss : List (Int × Int)) : (gcells ss).length = ss.length * 2 := by
  induction ss with
  | nil => rfl
  | cons s ss ih => show ([_, _] ++ gcells ss).length = _; rw [List.length_append, ih]; simp; omega
theorem scells_len (ss : List (Int × Bool × Int)) : (scells ss).length = ss.length * 3 := by
  induction ss with
  | nil => rfl
  | cons s ss ih => show ([_, _, _] ++ scells ss).length = _; rw [List.length_append, ih]; simp; omega
theorem gap_cells {w : World} {lo hi : Nat} {A : Option Addr} {gs : List (Int × Int)} (h : GapC w lo hi A gs) : ∀ ad, A = some ad → ∀ j u, (gcells gs)[j]? = some u → w.cell? (ad.add j) = some u := by
  intro ad hA j u hu
  have hj : j < gs.length * 2 := by rw [← gcells_len]; exact (List.getElem?_eq_some_iff.1 hu).1
  have hi' : j / 2 < gs.length := by omega
  obtain ⟨ad', e, -, -, h3, h4⟩ := h (j / 2) hi'
  rw [hA] at e; injection e with e; subst e
  have hf := flat_at (fun s : Int × Int => [Value.int .u16 s.1, .int .u16 s.2]) 2 (fun _ => rfl) gs (j / 2) hi' (j % 2) (by omega)
  rw [← div2 j] at hf
  have hu' := hu.symm.trans hf
  rcases (show j % 2 = 0 ∨ j % 2 = 1 by omega) with e | e
  · rw [e] at hu'
    injection hu' with hu'
    rw [show j = j / 2 * 2 by omega, hu']; exact h3
  · rw [e] at hu'
    injection hu' with hu'
    rw [add_add'] at h4
    rw [show j = j / 2 * 2 + 1 by omega, hu']; exact h4
theorem skp_cells {w : World} {lo hi : Nat} {A : Option Addr} {gs : List (Int × Bool × Int)} (h : SkpC w lo hi A gs) : ∀ ad, A = some ad → ∀ j u, (scells gs)[j]? = some u → w.cell? (ad.add j) = some u := by
  intro ad hA j u hu
  have hj : j < gs.length * 3 := by rw [← scells_len]; exact (List.getElem?_eq_some_iff.1 hu).1
  have hi' : j / 3 < gs.length := by omega
  obtain ⟨ad', e, -, -, h3, h4, h5⟩ := h (j / 3) hi'
  rw [hA] at e; injection e with e; subst e
  have hf := flat_at (fun s : Int × Bool × Int => [Value.int .u16 s.1, .bool s.2.1, .int .u32 s.2.2]) 3 (fun _ => rfl) gs (j / 3) hi' (j % 3) (by omega)
  rw [← div3 j] at hf
  have hu' := hu.symm.trans hf
  rcases (show j % 3 = 0 ∨ j % 3 = 1 ∨ j % 3 = 2 by omega) with e | e | e
  · rw [e] at hu'
    injection hu' with hu'
    rw [show j = j / 3 * 3 by omega, hu']; exact h3
  · rw [e] at hu'
    injection hu' with hu'
    rw [add_add'] at h4
    rw [show j = j / 3 * 3 + 1 by omega, hu']; exact h4
  · rw [e] at hu'
    injection hu' with hu'
    rw [add_add'] at h5
    rw [show j = j / 3 * 3 + 2 by omega, hu']; exact h5
theorem dup_cells {w : World} {lo hi : Nat} {A : Option Addr} {gs : List Int} (h : DupC w lo hi A gs) : ∀ ad, A = some ad → ∀ j u, (dcells gs)[j]? = some u → w.cell? (ad.add j) = some u := by
  intro ad hA j u hu
  have hj : j < gs.length := by have := (List.getElem?_eq_some_iff.1 hu).1; simpa [dcells] using this
  obtain ⟨ad', e, -, -, h3⟩ := h j hj
  rw [hA] at e; injection e with e; subst e
  have : u = .int .u32 gs[j] := by simp [dcells, hj] at hu; exact hu.symm
  rw [this]; exact h3
theorem gcells_one (ss : List (Int × Int)) : ∀ u ∈ gcells ss, u.oneCell' = true := fun u hu => by
  obtain ⟨s, _, h⟩ := List.mem_flatMap.1 hu
  simp at h; rcases h with rfl | rfl <;> rfl
theorem scells_one (ss : List (Int × Bool × Int)) : ∀ u ∈ scells ss, u.oneCell' = true := fun u hu => by
  obtain ⟨s, _, h⟩ := List.mem_flatMap.1 hu
  simp at h; rcases h with rfl | rfl | rfl <;> rfl
theorem dcells_one (ss : List Int) : ∀ u ∈ dcells ss, u.oneCell' = true := fun u hu => by
  obtain ⟨s, _, rfl⟩ := List.mem_map.1 hu
  rfl
theorem set_get {cs : Array Value} (h : cs.size = 19) (f : Nat) (hf : f < 19) (v : Value) : (cs.setIfInBounds f v).size = 19 ∧ (cs.setIfInBounds f v)[f]? = some v ∧ ∀ i, i ≠ f → (cs.setIfInBounds f v)[i]? = cs[i]? := by
  refine ⟨by rw [Array.size_setIfInBounds]; exact h, ?_, fun i hi => ?_⟩
  · rw [Array.getElem?_setIfInBounds, if_pos rfl, if_pos (by omega)]
  · rw [Array.getElem?_setIfInBounds, if_neg (fun e => hi e.symm)]
theorem szP_vals : ∀ (ps : List Pm) (n : Int), 0 ≤ n → szP ps n ≤ 400000 → ∀ p ∈ ps, p.2.length ≤ 1000000
  | [], _, _, _, p, hp => by cases hp
  | q :: ps, n, hn, h, p, hp => by
    unfold szP at h
    by_cases hb : 1000000 < n ∨ 1000000 < (q.2.length : Int)
    · rw [if_pos hb] at h; omega
    · rw [if_neg hb] at h
      rcases List.mem_cons.1 hp with rfl | hp
      · omega
      · exact szP_vals ps _ (by omega) h p hp
theorem sz_vals {c : Ck} (h : szC c ≤ 400000) : ∀ p ∈ c.ps, p.2.length ≤ 1000000 := by
  unfold szC at h
  by_cases hb : 1000000 < szM c
  · rw [if_pos hb] at h; omega
  · rw [if_neg hb] at h
    exact szP_vals _ _ (by omega) h
end Go.Proofs.Ytaifihoheieneaa.Chk
namespace Go.Proofs.Ytaifihoheieneaa.Chk
open Go.RowKit Go.Proofs.Ytaifihoheieneaa.Mem Go.Proofs.Ytaifihoheieneaa.Octet Go.Proofs.Ytaifihoheieneaa.Prm
set_option linter.unusedVariables false
set_option linter.unusedSimpArgs false
section
variable {P : Program}
theorem results_cell_one {fn : Func} {p : Tmp} {ty : TypeId} (h : fn.results = #[.cell p ty]) (tmps : Array Value) (P : Program) (w : World) :
    (results fn tmps).run P w = ((asAddr (tmps.getD p undef)).run P w).andThen fun a w₁ => (loadVar ty a).run P w₁ := by
  simp only [results, h]
  simp [Sem.run_bind, Result.andThen]
theorem results_blk1 {fn : Func} {p : Tmp} {ty : TypeId} (h : fn.results = #[.cell p ty]) (tmps : Array Value) {w : World} {g : Nat} {t : TypeId} {cs : Array Value} {d : TypeDesc}
    (hp : tmps.getD p undef = .pointer (some ⟨g, 0, none⟩)) (hb : Blk w g t cs) (hu : P.underlying ty = some d) (hd : (match d with | .struct _ | .array _ _ => true | _ => false) = true) (hi : (P.info? ty).map (·.size) = some cs.size) :
    (results fn tmps).run P w = .ok (.agg cs) w := by
  rw [results_cell_one h, hp]
  simp [asAddr, run_loadVar_row (P := P) w g t ty cs (0, 0) d hb hu hd hi]
end
theorem gap_nil {w : World} {lo hi : Nat} {A : Option Addr} {gs : List (Int × Int)} (h : GapC w lo hi A gs) : A = none → gs.length = 0 := fun e => by
  rcases Nat.eq_zero_or_pos gs.length with h0 | h0
  · exact h0
  · obtain ⟨_, e2, _⟩ := h 0 h0; rw [e] at e2; cases e2
theorem dup_nil {w : World} {lo hi : Nat} {A : Option Addr} {gs : List Int} (h : DupC w lo hi A gs) : A = none → gs.length = 0 := fun e => by
  rcases Nat.eq_zero_or_pos gs.length with h0 | h0
  · exact h0
  · obtain ⟨_, e2, _⟩ := h 0 h0; rw [e] at e2; cases e2
theorem skp_nil {w : World} {lo hi : Nat} {A : Option Addr} {gs : List (Int × Bool × Int)} (h : SkpC w lo hi A gs) : A = none → gs.length = 0 := fun e => by
  rcases Nat.eq_zero_or_pos gs.length with h0 | h0
  · exact h0
  · obtain ⟨_, e2, _⟩ := h 0 h0; rw [e] at e2; cases e2
theorem pms_c {w : World} {lo hi : Nat} {v : Value} {ps : List Pm} (h : PmS w lo hi v ps) : ∃ A c', v = .slice A ps.length c' ∧ PmC w lo hi A ps := h
theorem slb_more {w : World} {lo hi lo' hi' : Nat} {v : Value} {ys : List Int} (h : SlB w lo hi v ys) (h1 : lo' ≤ lo) (h2 : hi ≤ hi') : SlB w lo' hi' v ys := by
  obtain ⟨A, cap, e, a1, a2, a3, a4⟩ := h
  exact ⟨A, cap, e, a1, a2, a3, a4.more h1 h2⟩
theorem own_lt {w : World} {b : Nat} {e : TypeId} {size n c : Nat} {g : Nat} {xs : List Value} (h : w.ownsRow b e size (.slice (some ⟨g, 0, none⟩) n c) n xs) : g < w.heap.size := (h.lt g rfl).2
set_option maxHeartbeats 8000000 in
set_option maxRecDepth 100000 in
theorem rcopy_calls (lo hi : Nat) (cs : Array Value) (c : Ck) (w : World) (hC : CkV w lo hi cs c) (hhi : hi ≤ w.heap.size) (hl : c.gaps.length ≤ 1000000 ∧ c.dups.length ≤ 1000000 ∧ c.skips.length ≤ 1000000 ∧ c.ps.length ≤ 1000000 ∧ c.body.length ≤ 1000000) (hv : ∀ p ∈ c.ps, p.2.length ≤ 1000000) :
    Calls Try.prog 12 #[.agg cs] w fun e w' => Below w.heap.size w w' ∧ ∃ cs', e = .returned (.agg cs') ∧ CkV w' w.heap.size w'.heap.size cs' c := by
  have hup := Try.underlying31
  have hsz := hC.size
  have B0 : Below w.heap.size w ((w.alloc (.cells cs 31)).alloc (.cells zch 31)) := ((Below.refl _ w).alloc (Nat.le_refl _) _).alloc (by simp) _
  have bX := (Blk.new w cs 31).alloc (.cells zch 31)
  have bR : Blk ((w.alloc (.cells cs 31)).alloc (.cells zch 31)) (w.heap.size + 1) 31 zch := by simpa using Blk.new (w.alloc (.cells cs 31)) zch 31
  have hs1 : ((w.alloc (.cells cs 31)).alloc (.cells zch 31)).heap.size = w.heap.size + 2 := by simp
  have hC1 := hC.bl B0 hhi
  obtain ⟨i14, hi14, hz14, hb14, hy14⟩ := info_of info_gap
  obtain ⟨i15, hi15, hz15, hb15, hy15⟩ := info_of info_u32
  obtain ⟨i16, hi16, hz16, hb16, hy16⟩ := info_of info_skip
  obtain ⟨ib, hib, hbz0, hbz1, hbz2⟩ := info_parts info_b
  go_enter Try.func12, Try.ntmps12
  go_upto_region 1 with fail
  generalize (w.alloc (.cells cs 31)).alloc (.cells zch 31) = wk at *
  have HB0 := Lib.hid B0
  obtain ⟨gB, hgB⟩ : ∃ gB, w.heap.size = gB := ⟨_, rfl⟩
  obtain ⟨gR, hgR⟩ : ∃ gR, w.heap.size + 1 = gR := ⟨_, rfl⟩
  rw [hgR] at bR ⊢
  rw [hgB] at bX ⊢
  have HG := Lib.hid (And.intro hgB hgR)
  have HSK := Lib.hid (show gB + 2 ≤ wk.heap.size ∧ gR + 1 ≤ wk.heap.size ∧ hi ≤ gB ∧ gR = gB + 1 by omega)
  have hbR : gR ≠ gB := by omega
  have HC := Lib.hid hC1
  have ek : ∀ i, i < 14 → cs[i]? = cs[i]? := fun _ _ => rfl
  have ew := ek
  clear hs1 hgR hgB hC1 B0 ek ew
  obtain ⟨A14, p14, e14', G14⟩ := HC.out.c14
  have e14 : cs[14]? = some _ := e14'
  refine wp_region_lit ?_
  refine wpList_plain rfl (fun K hK => ?_)
  go_simp
  refine hK _ _ ?_
  clear hK K
  have hG14 := G14.fr (S := nothing) ((Fr.refl _ wk).alloc (.cells #[] 73)) (fun _ _ _ h => h)
  have bX1 := bX.alloc (.cells #[] 73)
  have bR1 := bR.alloc (.cells #[] 73)
  have F1 : Fr (only gB) wk (wk.alloc (.cells #[] 73)) := (Fr.refl _ wk).alloc _
  have own0 := own_empty wk 73 2
  have hlt0 := own_lt own0
  obtain ⟨hsk, hsk2, hsk3, -⟩ := HSK.out
  generalize wk.alloc (.cells #[] 73) = wl at *
  have cf := (bX1.cell 14).trans e14
  refine wpList_plain rfl (fun K hK => ?_)
  go_simp
  refine hK _ _ ?_
  clear hK K
  refine wpList_plain rfl (fun K hK => ?_)
  go_simp
  refine hK _ _ ?_
  clear hK K
  refine wpList_append_any _ rfl (.tmp 3) (.tmp 5) _ rfl wk.heap.size 73 i14 _ 2 4 Try.underlying25 hi14 hz14 hb14 hy14 rfl (by decide) (.slice (some ⟨wk.heap.size, 0, none⟩) 0 0) 0 [] rfl own0 A14 c.gaps.length p14 (gcells c.gaps) rfl (gap_nil hG14) (gcells_len _) (gap_cells hG14) (gcells_one _) (by have := hl.1; unfold maxLen; omega) (by have := hl.1; omega) (by omega) ?_
  rw [Nat.zero_add, List.nil_append]
  intro v wv hown hgr hat
  have F2 : Fr (fun k => wk.heap.size ≤ k) wl wv := (Fr.refl _ wl).grown hgr (fun k hk => .inl (own0.lt k hk).1)
  obtain ⟨Av, cv, rfl⟩ := row_form hown
  have nf := own_gap hown
  have hge : ∀ k, wk.heap.size ≤ k → k ≠ gB := fun k h => by omega
  have bX2 := bX1.fr F2 (fun h => by have h9 : wk.heap.size ≤ gB := h; omega)
  have bR2 := bR1.fr F2 (fun h => by have h9 : wk.heap.size ≤ gR := h; omega)
  have F12 : Fr (fun k => k = gB ∨ wk.heap.size ≤ k) wk wv := (F1.mono (fun k _ h => .inl h)).trans (F2.mono (fun k _ h => .inr h)) (fun k _ h => h)
  have cf2 := (bX2.cell 14).trans e14
  have ff2 := bX2.frozen 14
  clear cf
  refine wpList_plain rfl (fun K hK => ?_)
  go_simp
  refine hK _ _ ?_
  clear hK K
  refine wpList_plain rfl (fun K hK => ?_)
  go_simp
  refine hK _ _ ?_
  clear hK K
  refine wpList_nil ?_
  have F3 : Fr (only gB) wv (wv.setCell ⟨gB, 14, none⟩ (.slice Av c.gaps.length cv)) := (Fr.refl _ _).set_only 14 none _
  have D14 := nf.fr F3 (fun k h1 _ h => hge k h1 h)
  have lo14 : gB + 2 ≤ wk.heap.size := HSK.out.1
  have bX3 := bX2.set 14 (.slice Av c.gaps.length cv)
  have bR3 := bR2.fr F3 (fun h => hbR h)
  obtain ⟨sz14, g14, n14⟩ := set_get hsz 14 (by decide) (.slice Av c.gaps.length cv)
  have FK : Fr (fun k => k = gB ∨ wk.heap.size ≤ k) wk (wv.setCell ⟨gB, 14, none⟩ (.slice Av c.gaps.length cv)) := F12.trans (F3.mono (fun k _ h => .inl h)) (fun k _ h => h)
  have HC2 := HC.out.fr FK (fun k _ h2 h3 => by have := HSK.out; have h9 : k = gB ∨ wk.heap.size ≤ k := h3; omega)
  have HB1 := Lib.hid (Bl.trans HB0.out (Bl.of_fr FK HB0.out.size (fun k h => by have h9 : k = gB ∨ wk.heap.size ≤ k := h; have := HSK.out; have := HG.out; have := HB0.out.size; omega)))
  have hs14 := FK.size
  have hs14' := F3.size
  generalize hc14 : cs.setIfInBounds 14 (.slice Av c.gaps.length cv) = c14 at *
  generalize wv.setCell ⟨gB, 14, none⟩ (.slice Av c.gaps.length cv) = w14 at *
  have HSK1 := Lib.hid (show gB + 2 ≤ w14.heap.size ∧ gR + 1 ≤ w14.heap.size ∧ hi ≤ gB ∧ gR = gB + 1 by have := HSK.out; omega)
  clear bX bR HC HB0 HSK bX2 bR2 F3 FK nf cf2 ff2 hc14 hge F12 bX1 bR1 F1 F2 own0 hlt0 hown hgr hat
  have bX := bX3
  have bR := bR3
  have HC := Lib.hid HC2
  have HB0 := HB1
  have HSK := HSK1
  clear bX3 bR3 HC2 HB1 HSK1 hsk hsk2 hsk3
  obtain ⟨A15, p15, e15', G15⟩ := HC.out.c15
  have e15 : c14[15]? = some _ := (n14 15 (by decide)).trans e15'
  go_upto_region 2 with fail
  refine wp_region_lit ?_
  refine wpList_plain rfl (fun K hK => ?_)
  go_simp
  refine hK _ _ ?_
  clear hK K
  have hG15 := G15.fr (S := nothing) ((Fr.refl _ w14).alloc (.cells #[] 23)) (fun _ _ _ h => h)
  have bX1 := bX.alloc (.cells #[] 23)
  have bR1 := bR.alloc (.cells #[] 23)
  have F1 : Fr (only gB) w14 (w14.alloc (.cells #[] 23)) := (Fr.refl _ w14).alloc _
  have own0 := own_empty w14 23 1
  have hlt0 := own_lt own0
  obtain ⟨hsk, hsk2, hsk3, -⟩ := HSK.out
  generalize w14.alloc (.cells #[] 23) = wl at *
  have cf := (bX1.cell 15).trans e15
  refine wpList_plain rfl (fun K hK => ?_)
  go_simp
  refine hK _ _ ?_
  clear hK K
  refine wpList_plain rfl (fun K hK => ?_)
  go_simp
  refine hK _ _ ?_
  clear hK K
  refine wpList_append_any _ rfl (.tmp 8) (.tmp 10) _ rfl w14.heap.size 23 i15 _ 1 4 Try.underlying26 hi15 hz15 hb15 hy15 rfl (by decide) (.slice (some ⟨w14.heap.size, 0, none⟩) 0 0) 0 [] rfl own0 A15 c.dups.length p15 (dcells c.dups) rfl (dup_nil hG15) (by simp [dcells]) (dup_cells hG15) (dcells_one _) (by have := hl.2.1; unfold maxLen; omega) (by have := hl.2.1; omega) (by omega) ?_
  rw [Nat.zero_add, List.nil_append]
  intro v wv hown hgr hat
  have F2 : Fr (fun k => w14.heap.size ≤ k) wl wv := (Fr.refl _ wl).grown hgr (fun k hk => .inl (own0.lt k hk).1)
  obtain ⟨Av, cv, rfl⟩ := row_form hown
  have nf := own_dup hown
  have hge : ∀ k, w14.heap.size ≤ k → k ≠ gB := fun k h => by omega
  have bX2 := bX1.fr F2 (fun h => by have h9 : w14.heap.size ≤ gB := h; omega)
  have bR2 := bR1.fr F2 (fun h => by have h9 : w14.heap.size ≤ gR := h; omega)
  have F12 : Fr (fun k => k = gB ∨ w14.heap.size ≤ k) w14 wv := (F1.mono (fun k _ h => .inl h)).trans (F2.mono (fun k _ h => .inr h)) (fun k _ h => h)
  have cf2 := (bX2.cell 15).trans e15
  have ff2 := bX2.frozen 15
  clear cf
  refine wpList_plain rfl (fun K hK => ?_)
  go_simp
  refine hK _ _ ?_
  clear hK K
  refine wpList_plain rfl (fun K hK => ?_)
  go_simp
  refine hK _ _ ?_
  clear hK K
  refine wpList_nil ?_
  have F3 : Fr (only gB) wv (wv.setCell ⟨gB, 15, none⟩ (.slice Av c.dups.length cv)) := (Fr.refl _ _).set_only 15 none _
  have D15 := nf.fr F3 (fun k h1 _ h => hge k h1 h)
  have lo15 : gB + 2 ≤ w14.heap.size := HSK.out.1
  have bX3 := bX2.set 15 (.slice Av c.dups.length cv)
  have bR3 := bR2.fr F3 (fun h => hbR h)
  obtain ⟨sz15, g15, n15⟩ := set_get sz14 15 (by decide) (.slice Av c.dups.length cv)
  have FK : Fr (fun k => k = gB ∨ w14.heap.size ≤ k) w14 (wv.setCell ⟨gB, 15, none⟩ (.slice Av c.dups.length cv)) := F12.trans (F3.mono (fun k _ h => .inl h)) (fun k _ h => h)
  have HC2 := HC.out.fr FK (fun k _ h2 h3 => by have := HSK.out; have h9 : k = gB ∨ w14.heap.size ≤ k := h3; omega)
  have E14 := D14.fr FK (fun k h1 h2 h3 => by have h9 : k = gB ∨ w14.heap.size ≤ k := h3; have := HSK.out; omega)
  have HB1 := Lib.hid (Bl.trans HB0.out (Bl.of_fr FK HB0.out.size (fun k h => by have h9 : k = gB ∨ w14.heap.size ≤ k := h; have := HSK.out; have := HG.out; have := HB0.out.size; omega)))
  have hs15 := FK.size
  have hs15' := F3.size
  generalize hc15 : c14.setIfInBounds 15 (.slice Av c.dups.length cv) = c15 at *
  generalize wv.setCell ⟨gB, 15, none⟩ (.slice Av c.dups.length cv) = w15 at *
  have HSK1 := Lib.hid (show gB + 2 ≤ w15.heap.size ∧ gR + 1 ≤ w15.heap.size ∧ hi ≤ gB ∧ gR = gB + 1 by have := HSK.out; omega)
  clear bX bR HC HB0 HSK bX2 bR2 F3 FK nf cf2 ff2 hc15 hge F12 bX1 bR1 F1 F2 own0 hlt0 hown hgr hat
  have bX := bX3
  have bR := bR3
  have HC := Lib.hid HC2
  have HB0 := HB1
  have HSK := HSK1
  clear bX3 bR3 HC2 HB1 HSK1 hsk hsk2 hsk3
  have D14 := E14
  obtain ⟨A16, p16, e16', G16⟩ := HC.out.c16
  have e16 : c15[16]? = some _ := ((n15 16 (by decide)).trans (n14 16 (by decide))).trans e16'
  go_upto_region 3 with fail
  refine wp_region_lit ?_
  refine wpList_plain rfl (fun K hK => ?_)
  go_simp
  refine hK _ _ ?_
  clear hK K
  have hG16 := G16.fr (S := nothing) ((Fr.refl _ w15).alloc (.cells #[] 75)) (fun _ _ _ h => h)
  have bX1 := bX.alloc (.cells #[] 75)
  have bR1 := bR.alloc (.cells #[] 75)
  have F1 : Fr (only gB) w15 (w15.alloc (.cells #[] 75)) := (Fr.refl _ w15).alloc _
  have own0 := own_empty w15 75 3
  have hlt0 := own_lt own0
  obtain ⟨hsk, hsk2, hsk3, -⟩ := HSK.out
  generalize w15.alloc (.cells #[] 75) = wl at *
  have cf := (bX1.cell 16).trans e16
  refine wpList_plain rfl (fun K hK => ?_)
  go_simp
  refine hK _ _ ?_
  clear hK K
  refine wpList_plain rfl (fun K hK => ?_)
  go_simp
  refine hK _ _ ?_
  clear hK K
  refine wpList_append_any _ rfl (.tmp 13) (.tmp 15) _ rfl w15.heap.size 75 i16 _ 3 8 Try.underlying27 hi16 hz16 hb16 hy16 rfl (by decide) (.slice (some ⟨w15.heap.size, 0, none⟩) 0 0) 0 [] rfl own0 A16 c.skips.length p16 (scells c.skips) rfl (skp_nil hG16) (scells_len _) (skp_cells hG16) (scells_one _) (by have := hl.2.2.1; unfold maxLen; omega) (by have := hl.2.2.1; omega) (by omega) ?_
  rw [Nat.zero_add, List.nil_append]
  intro v wv hown hgr hat
  have F2 : Fr (fun k => w15.heap.size ≤ k) wl wv := (Fr.refl _ wl).grown hgr (fun k hk => .inl (own0.lt k hk).1)
  obtain ⟨Av, cv, rfl⟩ := row_form hown
  have nf := own_skp hown
  have hge : ∀ k, w15.heap.size ≤ k → k ≠ gB := fun k h => by omega
  have bX2 := bX1.fr F2 (fun h => by have h9 : w15.heap.size ≤ gB := h; omega)
  have bR2 := bR1.fr F2 (fun h => by have h9 : w15.heap.size ≤ gR := h; omega)
  have F12 : Fr (fun k => k = gB ∨ w15.heap.size ≤ k) w15 wv := (F1.mono (fun k _ h => .inl h)).trans (F2.mono (fun k _ h => .inr h)) (fun k _ h => h)
  have cf2 := (bX2.cell 16).trans e16
  have ff2 := bX2.frozen 16
  clear cf
  refine wpList_plain rfl (fun K hK => ?_)
  go_simp
  refine hK _ _ ?_
  clear hK K
  refine wpList_plain rfl (fun K hK => ?_)
  go_simp
  refine hK _ _ ?_
  clear hK K
  refine wpList_nil ?_
  have F3 : Fr (only gB) wv (wv.setCell ⟨gB, 16, none⟩ (.slice Av c.skips.length cv)) := (Fr.refl _ _).set_only 16 none _
  have D16 := nf.fr F3 (fun k h1 _ h => hge k h1 h)
  have lo16 : gB + 2 ≤ w15.heap.size := HSK.out.1
  have bX3 := bX2.set 16 (.slice Av c.skips.length cv)
  have bR3 := bR2.fr F3 (fun h => hbR h)
  obtain ⟨sz16, g16, n16⟩ := set_get sz15 16 (by decide) (.slice Av c.skips.length cv)
  have FK : Fr (fun k => k = gB ∨ w15.heap.size ≤ k) w15 (wv.setCell ⟨gB, 16, none⟩ (.slice Av c.skips.length cv)) := F12.trans (F3.mono (fun k _ h => .inl h)) (fun k _ h => h)
  have HC2 := HC.out.fr FK (fun k _ h2 h3 => by have := HSK.out; have h9 : k = gB ∨ w15.heap.size ≤ k := h3; omega)
  have E14 := D14.fr FK (fun k h1 h2 h3 => by have h9 : k = gB ∨ w15.heap.size ≤ k := h3; have := HSK.out; omega)
  have E15 := D15.fr FK (fun k h1 h2 h3 => by have h9 : k = gB ∨ w15.heap.size ≤ k := h3; have := HSK.out; omega)
  have HB1 := Lib.hid (Bl.trans HB0.out (Bl.of_fr FK HB0.out.size (fun k h => by have h9 : k = gB ∨ w15.heap.size ≤ k := h; have := HSK.out; have := HG.out; have := HB0.out.size; omega)))
  have hs16 := FK.size
  have hs16' := F3.size
  generalize hc16 : c15.setIfInBounds 16 (.slice Av c.skips.length cv) = c16 at *
  generalize wv.setCell ⟨gB, 16, none⟩ (.slice Av c.skips.length cv) = w16 at *
  have HSK1 := Lib.hid (show gB + 2 ≤ w16.heap.size ∧ gR + 1 ≤ w16.heap.size ∧ hi ≤ gB ∧ gR = gB + 1 by have := HSK.out; omega)
  clear bX bR HC HB0 HSK bX2 bR2 F3 FK nf cf2 ff2 hc16 hge F12 bX1 bR1 F1 F2 own0 hlt0 hown hgr hat
  have bX := bX3
  have bR := bR3
  have HC := Lib.hid HC2
  have HB0 := HB1
  have HSK := HSK1
  clear bX3 bR3 HC2 HB1 HSK1 hsk hsk2 hsk3
  have D14 := E14
  have D15 := E15
  obtain ⟨A17, p17, e17', G17⟩ := HC.out.c17
  have e17 : c16[17]? = some _ := (((n16 17 (by decide)).trans (n15 17 (by decide))).trans (n14 17 (by decide))).trans e17'
  go_upto_region 4 with fail
  skip
  obtain ⟨hsk, hsk2, hsk3, -⟩ := HSK.out
  refine wp_region_lit ?_
  have cf := (bX.cell 17).trans e17
  refine wpList_plain rfl (fun K hK => ?_)
  go_simp
  refine hK _ _ ?_
  clear hK K
  refine wpList_plain rfl (fun K hK => ?_)
  go_simp
  refine hK _ _ ?_
  clear hK K
  have HCP := Lib.hid (Prm.copy_calls _ _ A17 p17 c.ps w16 G17 (by omega) hl.2.2.2.1 hv)
  refine wpList_plain rfl (fun K hK => ?_)
  go_simp
  go_at_call 21
  refine HCP.out.mono ?_
  rintro e wv ⟨Av, cv, rfl, op, B2⟩
  simp only []
  refine hK _ _ ?_
  clear hK K HCP
  have bX2 := bX.fr (Fr.of_below (S := nothing) B2) id
  have bR2 := bR.fr (Fr.of_below (S := nothing) B2) id
  have F12 : Fr (fun k => k = gB ∨ w16.heap.size ≤ k) w16 wv := (Fr.of_below B2)
  have hge : ∀ k, w16.heap.size ≤ k → k ≠ gB := fun k h => by omega
  have nf0 := OwnPm.pms op
  obtain ⟨Apz, cpz, epz, nf⟩ : ∃ A c', (Value.slice Av c.ps.length cv) = .slice A c.ps.length c' ∧ PmC wv w16.heap.size wv.heap.size A c.ps := pms_c nf0
  injection epz with z1 z2 z3
  subst z1; subst z3
  have cf2 := (bX2.cell 17).trans e17
  have ff2 := bX2.frozen 17
  clear cf z2 nf0
  refine wpList_plain rfl (fun K hK => ?_)
  go_simp
  refine hK _ _ ?_
  clear hK K
  refine wpList_plain rfl (fun K hK => ?_)
  go_simp
  refine hK _ _ ?_
  clear hK K
  refine wpList_nil ?_
  have F3 : Fr (only gB) wv (wv.setCell ⟨gB, 17, none⟩ (.slice Av c.ps.length cv)) := (Fr.refl _ _).set_only 17 none _
  have D17 := nf.fr F3 (fun k h1 _ h => hge k h1 h)
  have lo17 : gB + 2 ≤ w16.heap.size := HSK.out.1
  have bX3 := bX2.set 17 (.slice Av c.ps.length cv)
  have bR3 := bR2.fr F3 (fun h => hbR h)
  obtain ⟨sz17, g17, n17⟩ := set_get sz16 17 (by decide) (.slice Av c.ps.length cv)
  have FK : Fr (fun k => k = gB ∨ w16.heap.size ≤ k) w16 (wv.setCell ⟨gB, 17, none⟩ (.slice Av c.ps.length cv)) := F12.trans (F3.mono (fun k _ h => .inl h)) (fun k _ h => h)
  have HC2 := HC.out.fr FK (fun k _ h2 h3 => by have := HSK.out; have h9 : k = gB ∨ w16.heap.size ≤ k := h3; omega)
  have E14 := D14.fr FK (fun k h1 h2 h3 => by have h9 : k = gB ∨ w16.heap.size ≤ k := h3; have := HSK.out; omega)
  have E15 := D15.fr FK (fun k h1 h2 h3 => by have h9 : k = gB ∨ w16.heap.size ≤ k := h3; have := HSK.out; omega)
  have E16 := D16.fr FK (fun k h1 h2 h3 => by have h9 : k = gB ∨ w16.heap.size ≤ k := h3; have := HSK.out; omega)
  have HB1 := Lib.hid (Bl.trans HB0.out (Bl.of_fr FK HB0.out.size (fun k h => by have h9 : k = gB ∨ w16.heap.size ≤ k := h; have := HSK.out; have := HG.out; have := HB0.out.size; omega)))
  have hs17 := FK.size
  have hs17' := F3.size
  generalize hc17 : c16.setIfInBounds 17 (.slice Av c.ps.length cv) = c17 at *
  generalize wv.setCell ⟨gB, 17, none⟩ (.slice Av c.ps.length cv) = w17 at *
  have HSK1 := Lib.hid (show gB + 2 ≤ w17.heap.size ∧ gR + 1 ≤ w17.heap.size ∧ hi ≤ gB ∧ gR = gB + 1 by have := HSK.out; omega)
  clear bX bR HC HB0 HSK bX2 bR2 F3 FK nf cf2 ff2 hc17 hge F12 B2 op
  have bX := bX3
  have bR := bR3
  have HC := Lib.hid HC2
  have HB0 := HB1
  have HSK := HSK1
  clear bX3 bR3 HC2 HB1 HSK1 hsk hsk2 hsk3
  have D14 := E14
  have D15 := E15
  have D16 := E16
  obtain ⟨A18, p18, e18', G18⟩ := HC.out.c18
  have e18 : c17[18]? = some _ := ((((n17 18 (by decide)).trans (n16 18 (by decide))).trans (n15 18 (by decide))).trans (n14 18 (by decide))).trans e18'
  go_upto_region 5 with fail
  refine wp_region_lit ?_
  refine wpList_plain rfl (fun K hK => ?_)
  go_simp
  refine hK _ _ ?_
  clear hK K
  have bX1 := bX.alloc (.cells #[] 5)
  have bR1 := bR.alloc (.cells #[] 5)
  have F1 : Fr (only gB) w17 (w17.alloc (.cells #[] 5)) := (Fr.refl _ w17).alloc _
  have own0 : (w17.alloc (.cells #[] 5)).ownsRow w17.heap.size 5 1 (.slice (some ⟨w17.heap.size, 0, none⟩) 0 0) ([] : List Int).length (byts []) := own_empty w17 5 1
  have hlt0 := own_lt (own_empty w17 5 1)
  obtain ⟨hsk, hsk2, hsk3, -⟩ := HSK.out
  obtain ⟨A18', c18', e18q, -, -, -, rd18⟩ := SlB.fr (S := nothing) G18 ((Fr.refl _ w17).alloc (.cells #[] 5)) (fun _ _ _ h => h)
  injection e18q with q1 q2 q3
  subst q1; subst q3
  generalize w17.alloc (.cells #[] 5) = wl at *
  have cf := (bX1.cell 18).trans e18
  refine wpList_plain rfl (fun K hK => ?_)
  go_simp
  refine hK _ _ ?_
  clear hK K
  refine wpList_plain rfl (fun K hK => ?_)
  go_simp
  refine hK _ _ ?_
  clear hK K
  refine wpList_append_b _ rfl (.tmp 22) (.tmp 24) _ rfl w17.heap.size 5 ib Try.underlying29 hib hbz0 hbz1 hbz2 (.slice (some ⟨w17.heap.size, 0, none⟩) 0 0) [] rfl own0 _ _ _ _ _ c.body rfl rfl rd18 (by have := hl.2.2.2.2; simp; omega) (by omega) ?_
  rw [List.nil_append]
  intro v wv hown hgr hat
  have hownB : OwnB wv w17.heap.size 5 v c.body := hown
  have F2 : Fr (fun k => w17.heap.size ≤ k) wl wv := (Fr.refl _ wl).grown hgr (fun k hk => .inl (own0.lt k hk).1)
  obtain ⟨Av, cv, rfl, -, -⟩ := OwnB.slice hownB
  have nf := SlB.of_own hownB
  have hge : ∀ k, w17.heap.size ≤ k → k ≠ gB := fun k h => by omega
  have bX2 := bX1.fr F2 (fun h => by have h9 : w17.heap.size ≤ gB := h; omega)
  have bR2 := bR1.fr F2 (fun h => by have h9 : w17.heap.size ≤ gR := h; omega)
  have F12 : Fr (fun k => k = gB ∨ w17.heap.size ≤ k) w17 wv := (F1.mono (fun k _ h => .inl h)).trans (F2.mono (fun k _ h => .inr h)) (fun k _ h => h)
  have cf2 := (bX2.cell 18).trans e18
  have ff2 := bX2.frozen 18
  clear cf
  refine wpList_plain rfl (fun K hK => ?_)
  go_simp
  refine hK _ _ ?_
  clear hK K
  refine wpList_plain rfl (fun K hK => ?_)
  go_simp
  refine hK _ _ ?_
  clear hK K
  refine wpList_nil ?_
  have F3 : Fr (only gB) wv (wv.setCell ⟨gB, 18, none⟩ (.slice Av c.body.length cv)) := (Fr.refl _ _).set_only 18 none _
  have D18 := nf.fr F3 (fun k h1 _ h => hge k h1 h)
  have lo18 : gB + 2 ≤ w17.heap.size := HSK.out.1
  have bX3 := bX2.set 18 (.slice Av c.body.length cv)
  have bR3 := bR2.fr F3 (fun h => hbR h)
  obtain ⟨sz18, g18, n18⟩ := set_get sz17 18 (by decide) (.slice Av c.body.length cv)
  have FK : Fr (fun k => k = gB ∨ w17.heap.size ≤ k) w17 (wv.setCell ⟨gB, 18, none⟩ (.slice Av c.body.length cv)) := F12.trans (F3.mono (fun k _ h => .inl h)) (fun k _ h => h)
  have HC2 := HC.out.fr FK (fun k _ h2 h3 => by have := HSK.out; have h9 : k = gB ∨ w17.heap.size ≤ k := h3; omega)
  have E14 := D14.fr FK (fun k h1 h2 h3 => by have h9 : k = gB ∨ w17.heap.size ≤ k := h3; have := HSK.out; omega)
  have E15 := D15.fr FK (fun k h1 h2 h3 => by have h9 : k = gB ∨ w17.heap.size ≤ k := h3; have := HSK.out; omega)
  have E16 := D16.fr FK (fun k h1 h2 h3 => by have h9 : k = gB ∨ w17.heap.size ≤ k := h3; have := HSK.out; omega)
  have E17 := D17.fr FK (fun k h1 h2 h3 => by have h9 : k = gB ∨ w17.heap.size ≤ k := h3; have := HSK.out; omega)
  have HB1 := Lib.hid (Bl.trans HB0.out (Bl.of_fr FK HB0.out.size (fun k h => by have h9 : k = gB ∨ w17.heap.size ≤ k := h; have := HSK.out; have := HG.out; have := HB0.out.size; omega)))
  have hs18 := FK.size
  have hs18' := F3.size
  generalize hc18 : c17.setIfInBounds 18 (.slice Av c.body.length cv) = c18 at *
  generalize wv.setCell ⟨gB, 18, none⟩ (.slice Av c.body.length cv) = w18 at *
  have HSK1 := Lib.hid (show gB + 2 ≤ w18.heap.size ∧ gR + 1 ≤ w18.heap.size ∧ hi ≤ gB ∧ gR = gB + 1 by have := HSK.out; omega)
  clear bX bR HC HB0 HSK bX2 bR2 F3 FK nf cf2 ff2 hc18 hge F12 bX1 bR1 F1 F2 own0 hlt0 hown hgr hat
  have bX := bX3
  have bR := bR3
  have HC := Lib.hid HC2
  have HB0 := HB1
  have HSK := HSK1
  clear bX3 bR3 HC2 HB1 HSK1 hsk hsk2 hsk3
  have D14 := E14
  have D15 := E15
  have D16 := E16
  have D17 := E17
  go_upto_region 6 with fail
  refine wp_region_lit ?_
  refine wpList_plain rfl (fun K hK => ?_)
  refine Mem.oper_load rfl rfl bX hup rfl (by rw [sz18]; kernel_rfl) ?_
  refine hK _ _ ?_
  clear hK K
  have r0 := ((n18 0 (by decide)).trans ((n17 0 (by decide)).trans ((n16 0 (by decide)).trans ((n15 0 (by decide)).trans (n14 0 (by decide)))))).trans hC.c0
  have r1 := ((n18 1 (by decide)).trans ((n17 1 (by decide)).trans ((n16 1 (by decide)).trans ((n15 1 (by decide)).trans (n14 1 (by decide)))))).trans hC.c1
  have r2 := ((n18 2 (by decide)).trans ((n17 2 (by decide)).trans ((n16 2 (by decide)).trans ((n15 2 (by decide)).trans (n14 2 (by decide)))))).trans hC.c2
  have r3 := ((n18 3 (by decide)).trans ((n17 3 (by decide)).trans ((n16 3 (by decide)).trans ((n15 3 (by decide)).trans (n14 3 (by decide)))))).trans hC.c3
  have r4 := ((n18 4 (by decide)).trans ((n17 4 (by decide)).trans ((n16 4 (by decide)).trans ((n15 4 (by decide)).trans (n14 4 (by decide)))))).trans hC.c4
  have r5 := ((n18 5 (by decide)).trans ((n17 5 (by decide)).trans ((n16 5 (by decide)).trans ((n15 5 (by decide)).trans (n14 5 (by decide)))))).trans hC.c5
  have r6 := ((n18 6 (by decide)).trans ((n17 6 (by decide)).trans ((n16 6 (by decide)).trans ((n15 6 (by decide)).trans (n14 6 (by decide)))))).trans hC.c6
  have r7 := ((n18 7 (by decide)).trans ((n17 7 (by decide)).trans ((n16 7 (by decide)).trans ((n15 7 (by decide)).trans (n14 7 (by decide)))))).trans hC.c7
  have r8 := ((n18 8 (by decide)).trans ((n17 8 (by decide)).trans ((n16 8 (by decide)).trans ((n15 8 (by decide)).trans (n14 8 (by decide)))))).trans hC.c8
  have r9 := ((n18 9 (by decide)).trans ((n17 9 (by decide)).trans ((n16 9 (by decide)).trans ((n15 9 (by decide)).trans (n14 9 (by decide)))))).trans hC.c9
  have r10 := ((n18 10 (by decide)).trans ((n17 10 (by decide)).trans ((n16 10 (by decide)).trans ((n15 10 (by decide)).trans (n14 10 (by decide)))))).trans hC.c10
  have r11 := ((n18 11 (by decide)).trans ((n17 11 (by decide)).trans ((n16 11 (by decide)).trans ((n15 11 (by decide)).trans (n14 11 (by decide)))))).trans hC.c11
  have r12 := ((n18 12 (by decide)).trans ((n17 12 (by decide)).trans ((n16 12 (by decide)).trans ((n15 12 (by decide)).trans (n14 12 (by decide)))))).trans hC.c12
  have r13 := ((n18 13 (by decide)).trans ((n17 13 (by decide)).trans ((n16 13 (by decide)).trans ((n15 13 (by decide)).trans (n14 13 (by decide)))))).trans hC.c13
  have r14 := ((n18 14 (by decide)).trans ((n17 14 (by decide)).trans ((n16 14 (by decide)).trans ((n15 14 (by decide)).trans g14))))
  have r15 := ((n18 15 (by decide)).trans ((n17 15 (by decide)).trans ((n16 15 (by decide)).trans g15)))
  have r16 := ((n18 16 (by decide)).trans ((n17 16 (by decide)).trans g16))
  have r17 := ((n18 17 (by decide)).trans g17)
  have r18 := g18
  have hone : c18.all (·.oneCell') = true := by
    rw [Array.all_eq_true]
    intro i hi
    have hi9 : i < 19 := by omega
    have hq := Array.getElem?_eq_getElem hi
    rcases (show i = 0 ∨ i = 1 ∨ i = 2 ∨ i = 3 ∨ i = 4 ∨ i = 5 ∨ i = 6 ∨ i = 7 ∨ i = 8 ∨ i = 9 ∨ i = 10 ∨ i = 11 ∨ i = 12 ∨ i = 13 ∨ i = 14 ∨ i = 15 ∨ i = 16 ∨ i = 17 ∨ i = 18 by omega) with rfl | rfl | rfl | rfl | rfl | rfl | rfl | rfl | rfl | rfl | rfl | rfl | rfl | rfl | rfl | rfl | rfl | rfl | rfl
    · rw [r0] at hq; injection hq with hq; rw [← hq]; rfl
    · rw [r1] at hq; injection hq with hq; rw [← hq]; rfl
    · rw [r2] at hq; injection hq with hq; rw [← hq]; rfl
    · rw [r3] at hq; injection hq with hq; rw [← hq]; rfl
    · rw [r4] at hq; injection hq with hq; rw [← hq]; rfl
    · rw [r5] at hq; injection hq with hq; rw [← hq]; rfl
    · rw [r6] at hq; injection hq with hq; rw [← hq]; rfl
    · rw [r7] at hq; injection hq with hq; rw [← hq]; rfl
    · rw [r8] at hq; injection hq with hq; rw [← hq]; rfl
    · rw [r9] at hq; injection hq with hq; rw [← hq]; rfl
    · rw [r10] at hq; injection hq with hq; rw [← hq]; rfl
    · rw [r11] at hq; injection hq with hq; rw [← hq]; rfl
    · rw [r12] at hq; injection hq with hq; rw [← hq]; rfl
    · rw [r13] at hq; injection hq with hq; rw [← hq]; rfl
    · rw [r14] at hq; injection hq with hq; rw [← hq]; rfl
    · rw [r15] at hq; injection hq with hq; rw [← hq]; rfl
    · rw [r16] at hq; injection hq with hq; rw [← hq]; rfl
    · rw [r17] at hq; injection hq with hq; rw [← hq]; rfl
    · rw [r18] at hq; injection hq with hq; rw [← hq]; rfl
  have HON := Lib.hid hone
  clear hone
  refine wpList_plain rfl (fun K hK => ?_)
  refine Mem.oper_store (cs0 := zch) (cs := c18) rfl rfl rfl bR (by rw [sz18]; kernel_rfl) (by rw [sz18]; rfl) HON.out ?_
  refine hK _ _ ?_
  clear hK K
  refine wpList_nil ?_
  have FR := fr_row (w := w18) gR c18
  have bR9 := blk_row c18 bR
  have hsR := FR.size
  have D14' := D14.fr FR (fun k h1 _ h => by have h9 : k = gR := h; have := HSK.out; omega)
  have D15' := D15.fr FR (fun k h1 _ h => by have h9 : k = gR := h; have := HSK.out; omega)
  have D16' := D16.fr FR (fun k h1 _ h => by have h9 : k = gR := h; have := HSK.out; omega)
  have D17' := D17.fr FR (fun k h1 _ h => by have h9 : k = gR := h; have := HSK.out; omega)
  have D18' := D18.fr FR (fun k h1 _ h => by have h9 : k = gR := h; have := HSK.out; omega)
  have HB9 := Lib.hid (Bl.trans HB0.out (Bl.of_fr FR HB0.out.size (fun k h => by have h9 : k = gR := h; have := HG.out; omega)))
  have HVV := Lib.hid (show CkV (w18.setRow gR c18) w.heap.size (w18.setRow gR c18).heap.size c18 c from by
    have hg9 := HG.out
    have hk9 := HSK.out
    exact ⟨sz18, HON.out, r0, r1, r2, r3, r4, r5, r6, r7, r8, r9, r10, r11, r12, r13,
      ⟨_, _, r14, fun i hi => by obtain ⟨ad, e, a1, a2, a3⟩ := D14' i hi; exact ⟨ad, e, by omega, by omega, a3⟩⟩,
      ⟨_, _, r15, fun i hi => by obtain ⟨ad, e, a1, a2, a3⟩ := D15' i hi; exact ⟨ad, e, by omega, by omega, a3⟩⟩,
      ⟨_, _, r16, fun i hi => by obtain ⟨ad, e, a1, a2, a3⟩ := D16' i hi; exact ⟨ad, e, by omega, by omega, a3⟩⟩,
      ⟨_, _, r17, fun i hi => by obtain ⟨ad, s, e, a1, a2, a3, a4, a5⟩ := D17' i hi; exact ⟨ad, s, e, by omega, by omega, a3, a4, slb_more a5 (by omega) (by omega)⟩⟩,
      ⟨_, _, r18, slb_more D18' (by omega) (by omega)⟩⟩)
  have hi18 : (Try.prog.info? 31).map (fun i => i.size) = some c18.size := by rw [sz18]; kernel_rfl
  generalize w18.setRow gR c18 = w9 at *
  clear D14 D14' r14 D15 D15' r15 D16 D16' r16 D17 D17' r17 D18 D18' r18 bR bX HB0 HC FR
  clear r0 r1 r2 r3 r4 r5 r6 r7 r8 r9 r10 r11 r12 r13
  go_wp2
  (try simp only [Exit.inBlock, Exit.then])
  refine bodyPost_ret (results_blk1 rfl _ rfl bR9 hup rfl hi18) rfl ?_
  exact ⟨HB9.out, c18, rfl, HVV.out⟩
end Go.Proofs.Ytaifihoheieneaa.Chk
