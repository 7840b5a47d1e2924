/- Contract of flumeref12.Cut. Conditions: each names its blocks and the bounds. -/
import Derived.Test.YtnhkmapeleomkaaFragFirst
import Derived.Great.BuildSlice
namespace Go.Proofs.Ytnhkmapeleomkaa.Frag
open Go.RowKit Go.Proofs.Ytnhkmapeleomkaa.Mem Go.Proofs.Ytnhkmapeleomkaa.Octet
set_option linter.unusedVariables false
set_option linter.unusedSimpArgs false
attribute [local go_sem] max2_mx min2_mn max_two min_two
set_option maxHeartbeats 1000000 in
set_option maxRecDepth 100000 in
theorem rcut_bad (st mid pp : Int) (ls : Bool) (A : Option Addr) (c : Nat) (bs : List Int) (most : Int) (inter : Bool) (w : World) (he : cutE most inter bs.length ≠ 0) :
    Calls Try.prog 9 #[.agg #[.int .u16 st, .bool ls, .int .u32 mid, .int .u32 pp, .slice A bs.length c], .int .i64 most, .bool inter] w fun e w' => e = .returned (.tuple #[.slice none 0 0, .int .i64 (cutE most inter bs.length)]) ∧ Below w.heap.size w w' := by
  have B1 : ∀ o, Below w.heap.size w (w.alloc o) := fun o => (Below.refl _ w).alloc (Nat.le_refl _) _
  by_cases h1 : most < 1
  · have e : cutE most inter bs.length = 2 := by unfold cutE; rw [if_pos (.inl h1)]
    have HE := Lib.hid e
    have hd : decide (most < 1) = true := decide_eq_true h1
    clear he e h1
    go_enter Try.func9, Try.ntmps9
    go_wp2
    go_ret2
    rw [HE.out]
    exact ⟨rfl, B1 _⟩
  · have hd : decide (most < 1) = false := decide_eq_false h1
    by_cases h2 : room inter < most
    · have e : cutE most inter bs.length = 2 := by unfold cutE; rw [if_pos (.inr h2)]
      have HE := Lib.hid e
      clear he e h1
      go_enter Try.func9, Try.ntmps9
      go_wp2_with fail
      refine (rroom_calls inter _).mono ?_
      rintro e w1 ⟨rfl, rfl⟩
      go_wp2
      go_ret2
      rw [HE.out]
      exact ⟨rfl, B1 _⟩
    · by_cases h3 : bs.length = 0
      · have e : cutE most inter bs.length = 42 := by unfold cutE; rw [if_neg (by omega), if_pos h3]
        have HE := Lib.hid e
        have hd3 : ((bs.length : Int) == 0) = true := by simpa using h3
        clear he e h1 h3
        go_enter Try.func9, Try.ntmps9
        go_wp2_with fail
        refine (rroom_calls inter _).mono ?_
        rintro e w1 ⟨rfl, rfl⟩
        go_wp2
        go_ret2
        rw [HE.out]
        exact ⟨rfl, B1 _⟩
      · by_cases h4 : 65536 < bs.length
        · have e : cutE most inter bs.length = 43 := by unfold cutE; rw [if_neg (by omega), if_neg h3, if_pos h4]
          have HE := Lib.hid e
          have hd3 : ((bs.length : Int) == 0) = false := by simpa using h3
          have hd4 : decide ((65536 : Int) < bs.length) = true := decide_eq_true (by omega)
          clear he e h1 h3 h4
          go_enter Try.func9, Try.ntmps9
          go_wp2_with fail
          refine (rroom_calls inter _).mono ?_
          rintro e w1 ⟨rfl, rfl⟩
          go_wp2
          go_ret2
          rw [HE.out]
          exact ⟨rfl, B1 _⟩
        · exact absurd (show cutE most inter bs.length = 0 by unfold cutE; rw [if_neg (by omega), if_neg h3, if_neg h4]) he
theorem oper_build_one {o : Oper} {a : Act} {w : World} {K : Act → World → Prop} {Q : Exit → Act → World → Prop} (x : Operand) (cs : Array Value) (ho : o.op = .buildSlice 28 1 #[(0, x)]) (hx : a.eval x = .agg cs) (hs : cs.size = 19)
    (h : K (a.put o.dst (.slice (some ⟨w.heap.size, 0, none⟩) 1 1)) (w.alloc (.cells cs 42))) : o.wp Try.prog a w K Q := by
  obtain ⟨i0, hi0, hz0, hz1, hz2⟩ := info_parts info_c
  refine wp_buildSlice _ _ 1 #[(0, x)] ho cs i0 _ Try.underlying28 hi0 hz0 (by rw [hz1]; decide) (by rw [hz1]; decide) ?_ h
  rw [hz1]
  have e9 : ((#[(0, x)] : Array (Nat × Operand)).map fun (i, x) => (i, a.eval x)).toList = [(0, .agg cs)] := by simp [hx]
  rw [e9]
  obtain ⟨r, h1, h2, h3⟩ := Great.fill_dense (s := 19) (by decide) [.agg cs] 0 ((Array.range (1 * 19)).map fun i => (Value.agg #[.int .u8 0, .bool false, .bool false, .bool false, .bool false, .int .u32 0, .int .u16 0, .int .u32 0, .int .u32 0, .int .u32 0, .int .u32 0, .int .u32 0, .int .u16 0, .int .u16 0, .slice none 0 0, .slice none 0 0, .slice none 0 0, .slice none 0 0, .slice none 0 0]).cells[i % (Value.agg #[.int .u8 0, .bool false, .bool false, .bool false, .bool false, .int .u32 0, .int .u16 0, .int .u32 0, .int .u32 0, .int .u32 0, .int .u32 0, .int .u32 0, .int .u16 0, .int .u16 0, .slice none 0 0, .slice none 0 0, .slice none 0 0, .slice none 0 0, .slice none 0 0]).cells.size]!) (by intro v hv; rw [List.mem_singleton] at hv; subst hv; exact hs) (by simp)
  rw [show ([(0, Value.agg cs)] : List (Nat × Value)) = ([Value.agg cs].zipIdx 0).map fun x => (x.2, x.1) from rfl, h1]
  congr 1
  apply Array.ext_getElem?
  intro k
  rw [h3 k]
  by_cases hk : k < 19
  · rw [if_pos (by simp; exact hk), Nat.div_eq_of_lt hk, Nat.mod_eq_of_lt hk]
    rfl
  · rw [if_neg (by simp; omega), Array.getElem?_eq_none (by simp; omega), Array.getElem?_eq_none (by omega)]
theorem wr_own (x : Int) (h : 0 ≤ x ∧ x < 9223372036854775808) : wrap64 x = x := by unfold wrap64; omega
theorem SlB.len_cap {w : World} {lo hi : Nat} {A : Option Addr} {n c : Nat} {bs : List Int} (h : SlB w lo hi (.slice A n c) bs) : n ≤ c := by
  obtain ⟨A', c', e, h1, h2, h3, h4⟩ := h
  injection e with e1 e2 e3
  omega
theorem min_at (p m n z : Nat) (hz : z = (if p + m ≤ n then p + m else n)) (h : p ≤ 70000) (h2 : m ≤ 70000) : mn (wrap64 ((p : Int) + (m : Int))) (n : Int) = (z : Int) := by
  rw [wr_own _ (by omega)]
  unfold mn
  split at hz <;> split <;> omega
theorem add_at (j m : Nat) (h : j * m ≤ 70000) (h2 : m ≤ 70000) : wrap64 (((j * m : Nat) : Int) + (m : Int)) = (((j + 1) * m : Nat) : Int) := by
  rw [wr_own _ (by omega), Nat.succ_mul, Int.natCast_add]
def msr (n : Nat) (v : Value) : Nat := n - (intOf v).toNat
theorem meas4 (n m p j : Nat) (v : Int) (hv : v = (((j + 1) * m : Nat) : Int)) (h : (j + 1) * m = p + m) (hm : 0 < m) (hp : (p : Int) < n) : msr (n + m) (.int .i64 v) < msr (n + m) (.int .i64 p) := by
  subst hv
  simp only [msr, intOf]
  omega
theorem quo_at (j m : Nat) (hm : 0 < m) (hj : j ≤ 140000) : wrap64 (((j * m : Nat) : Int).tdiv m) = (j : Int) ∧ wrap64 (((j * m : Nat) : Int) / m) = (j : Int) := by
  have h : ((j * m : Nat) : Int) / m = j := by rw [Int.natCast_mul]; exact Int.mul_ediv_cancel _ (by omega)
  rw [Int.tdiv_eq_ediv_of_nonneg (by omega), h]
  exact ⟨wr_own _ (by omega), wr_own _ (by omega)⟩
theorem beg_at (j m : Nat) (hm : 0 < m) : (((j * m : Nat) : Int) == 0) = decide (j = 0) := by
  by_cases h : j = 0
  · subst h; simp
  · have : 0 < j * m := Nat.mul_pos (by omega) hm
    rw [beq_eq_false_iff_ne.2 (by omega), decide_eq_false h]
theorem end_at {bs : List Int} {j m z : Nat} (hm : 0 < m) (h : j * m < bs.length) (hz : z = (if j * m + m ≤ bs.length then j * m + m else bs.length)) : ((z : Int) == (bs.length : Int)) = decide (j + 1 = npc m bs) := by
  have h1 := pk_lt hm h
  have e : (j + 1) * m = j * m + m := Nat.succ_mul j m
  have hN : npc m bs = (bs.length + m - 1) / m := rfl
  rw [hN]
  by_cases hl : (j + 1) * m < bs.length
  · have h2 := pk_lt hm hl
    rw [if_pos (by omega)] at hz
    rw [beq_eq_false_iff_ne.2 (by omega), decide_eq_false (by omega)]
  · have h2 := pk_ge hm hl
    have hzn : z = bs.length := by rw [hz]; split <;> omega
    rw [hzn, beq_self_eq_true, decide_eq_true (by omega)]
theorem piece_at (st mid pp : Int) (ls inter : Bool) (bs : List Int) (m j z : Nat) (hz : z = (if j * m + m ≤ bs.length then j * m + m else bs.length)) :
    piece st ls mid pp inter bs m j = { kind := if inter then 64 else 0, bg := decide (j = 0), en := decide (j + 1 = npc m bs), ls := ls, st := st, mid := if inter then mid else mid % 65536, pp := pp, fr := if inter then j else 0, body := (bs.take z).drop (j * m) } := by
  have e : (bs.drop (j * m)).take m = (bs.take z).drop (j * m) := by
    rw [List.drop_take]
    split at hz
    · rw [hz]; congr 1; omega
    · rw [hz, List.take_of_length_le (by simp; omega), List.take_of_length_le (by simp)]
  simp only [piece, raw, e]
theorem take_more (st mid pp : Int) (ls inter : Bool) (bs : List Int) (m j : Nat) (h : j < npc m bs) : (pieces st ls mid pp inter bs m).take j ++ [piece st ls mid pp inter bs m j] = (pieces st ls mid pp inter bs m).take (j + 1) := by
  rw [List.take_add_one, List.getElem?_eq_getElem (by rw [pieces_len]; exact h)]
  simp [pieces]
set_option maxHeartbeats 4000000 in
set_option maxRecDepth 100000 in
/-- Where it cuts. -/
theorem rcut_ok (lo hi : Nat) (st mid pp : Int) (ls : Bool) (ad : Addr) (c : Nat) (bs : List Int) (m : Nat) (inter : Bool) (w : World) (h : SlB w lo hi (.slice (some ad) bs.length c) bs) (hhi : hi ≤ w.heap.size)
    (hm0 : 0 < m) (hm1 : (m : Int) ≤ room inter) (hn0 : 0 < bs.length) (hn1 : bs.length ≤ 65536) (hmid : 0 ≤ mid ∧ mid < 4294967296) :
    Calls Try.prog 9 #[.agg #[.int .u16 st, .bool ls, .int .u32 mid, .int .u32 pp, .slice (some ad) bs.length c], .int .i64 m, .bool inter] w fun e w' => ∃ B c', e = .returned (.tuple #[.slice B (npc m bs) c', .int .i64 0]) ∧ OwnCk w' w.heap.size (.slice B (npc m bs) c') (pieces st ls mid pp inter bs m) ∧ Below w.heap.size w w' := by
  have hd1 : decide ((m : Int) < 1) = false := decide_eq_false (by omega)
  have hd2 : decide (room inter < (m : Int)) = false := decide_eq_false (by omega)
  have hd3 : ((bs.length : Int) == 0) = false := beq_eq_false_iff_ne.2 (by omega)
  have hd4 : decide ((65536 : Int) < bs.length) = false := decide_eq_false (by omega)
  have bM := Blk.new w #[.int .u16 st, .bool ls, .int .u32 mid, .int .u32 pp, .slice (some ad) bs.length c] 26
  have B0 : Below w.heap.size w (w.alloc (.cells #[.int .u16 st, .bool ls, .int .u32 mid, .int .u32 pp, .slice (some ad) bs.length c] 26)) := (Below.refl _ w).alloc (Nat.le_refl _) _
  have X0 := SlB.bl h B0 hhi
  go_enter Try.func9, Try.ntmps9
  go_wp2_with fail
  refine (rroom_calls inter _).mono ?_
  rintro e w1 ⟨rfl, rfl⟩
  clear h
  go_wp2_with fail
  go_loopw [8, 9] (fun v i wr => ∃ j : Nat, j ≤ npc m bs ∧ i = .int .i64 ((j * m : Nat) : Int) ∧ OwnCk wr w.heap.size v ((pieces st ls mid pp inter bs m).take j) ∧ Blk wr w.heap.size 26 #[.int .u16 st, .bool ls, .int .u32 mid, .int .u32 pp, .slice (some ad) bs.length c] ∧ SlB wr lo hi (.slice (some ad) bs.length c) bs ∧ Below w.heap.size w wr) (fun _ i _ => msr (bs.length + m) i)
  case atStart => exact ⟨0, Nat.zero_le _, by simp, OwnCk.nil _ _, bM, X0, B0⟩
  case round =>
    clear bM X0 B0
    obtain ⟨j, hj, rfl, O, bM, X, B⟩ := hrel
    have cM0 := bM.cell 0
    have cM1 := bM.cell 1
    have cM2 := bM.cell 2
    have cM3 := bM.cell 3
    have cM4 := bM.cell 4
    simp at cM0 cM1 cM2 cM3 cM4
    by_cases hlt : j * m < bs.length
    · have hjN := pk_lt hm0 hlt
      obtain ⟨z, hz⟩ : ∃ z, z = (if j * m + m ≤ bs.length then j * m + m else bs.length) := ⟨_, rfl⟩
      have HJ := Lib.hid hjN
      have hm2 : m ≤ 1172 := by unfold room at hm1; split at hm1 <;> omega
      have hcl : bs.length ≤ c := SlB.len_cap X
      have hj7 : j < bs.length + m - 1 := Nat.lt_of_lt_of_le hjN (Nat.div_le_self _ _)
      have HDV := Lib.hid (quo_at j m hm0 (by omega))
      have hjb : (j : Int) < 70000 := by omega
      have HMN := Lib.hid (min_at (j * m) m bs.length z hz (by omega) (by omega))
      have HAD := Lib.hid (add_at j m (by omega) (by omega))
      have HSM := Lib.hid (show (j + 1) * m = j * m + m from Nat.succ_mul j m)
      have HM0 := Lib.hid hm0
      have HBG := Lib.hid (beg_at j m hm0)
      have HEN := Lib.hid (end_at (bs := bs) hm0 hlt hz)
      have HPC := Lib.hid (piece_at st mid pp ls inter bs m j z hz)
      have hzl : z ≤ bs.length := by rw [hz]; split <;> omega
      have hpz : j * m ≤ z := by rw [hz]; split <;> omega
      generalize hp : j * m = p at *
      have hpl : (p : Int) < bs.length := by omega
      have hw32 : IntKind.u32.wrap (j : Int) = j := by rw [IntKind.wrap_u32]; omega
      have hmp : (0 : Int) < m := by omega
      have hmz : ((m : Int) == 0) = false := beq_eq_false_iff_ne.2 (by omega)
      have hup := Try.underlying42
      have HN1 := Lib.hid hn1
      have HMT := Lib.hid (Int.tmod_eq_emod_of_nonneg (b := 65536) hmid.1)
      clear hz hlt hj hjN hj7 hm2 hm0 hm1 hn0 hn1 hmid hp
      go_upto_region 12 with fail
      rw [HMN.out]
      clear HMN
      generalize wrap64 ((p : Int) + (m : Int)) = s
      go_upto_region 13 with fail
      obtain ⟨W0, hW0⟩ : ∃ W0, wr.alloc (.cells #[.int .u8 0, .bool false, .bool false, .bool false, .bool false, .int .u32 0, .int .u16 0, .int .u32 0, .int .u32 0, .int .u32 0, .int .u32 0, .int .u32 0, .int .u16 0, .int .u16 0, .slice none 0 0, .slice none 0 0, .slice none 0 0, .slice none 0 0, .slice none 0 0] 42) = W0 := ⟨_, rfl⟩
      have bC := Blk.new wr #[.int .u8 0, .bool false, .bool false, .bool false, .bool false, .int .u32 0, .int .u16 0, .int .u32 0, .int .u32 0, .int .u32 0, .int .u32 0, .int .u32 0, .int .u16 0, .int .u16 0, .slice none 0 0, .slice none 0 0, .slice none 0 0, .slice none 0 0, .slice none 0 0] 42
      have bM2 := bM.alloc (.cells #[.int .u8 0, .bool false, .bool false, .bool false, .bool false, .int .u32 0, .int .u16 0, .int .u32 0, .int .u32 0, .int .u32 0, .int .u32 0, .int .u32 0, .int .u16 0, .int .u16 0, .slice none 0 0, .slice none 0 0, .slice none 0 0, .slice none 0 0, .slice none 0 0] 42)
      have FW : Fr nothing wr (wr.alloc (.cells #[.int .u8 0, .bool false, .bool false, .bool false, .bool false, .int .u32 0, .int .u16 0, .int .u32 0, .int .u32 0, .int .u32 0, .int .u32 0, .int .u32 0, .int .u16 0, .int .u16 0, .slice none 0 0, .slice none 0 0, .slice none 0 0, .slice none 0 0, .slice none 0 0] 42)) := (Fr.refl nothing wr).alloc _
      have hgne : w.heap.size ≠ wr.heap.size := by have := bM.lt; omega
      have hgle : wr.heap.size ≤ wr.heap.size := Nat.le_refl _
      rw [hW0] at bC bM2 FW ⊢
      have bM := bM2
      clear hW0 bM2
      obtain ⟨g, hg⟩ : ∃ g, wr.heap.size = g := ⟨_, rfl⟩
      simp only [hg] at bC hgne ⊢
      replace hgle : wr.heap.size ≤ g := by omega
      clear cM0 cM1 cM2 cM3 cM4
      have cM0 := bM.cell 0
      have cM1 := bM.cell 1
      have cM2 := bM.cell 2
      have cM3 := bM.cell 3
      have cM4 := bM.cell 4
      simp at cM0 cM1 cM2 cM3 cM4
      have cB := bC.cell 6
      have fB := bC.frozen 6
      simp at cB
      go_upto_region 14 with fail
      obtain ⟨W1, hW1⟩ : ∃ W1, World.setCell W0 ⟨g, 6, none⟩ (.int .u16 st) = W1 := ⟨_, rfl⟩
      have bC2 : Blk (World.setCell W0 ⟨g, 6, none⟩ (.int .u16 st)) g 42 #[.int .u8 0, .bool false, .bool false, .bool false, .bool false, .int .u32 0, .int .u16 st, .int .u32 0, .int .u32 0, .int .u32 0, .int .u32 0, .int .u32 0, .int .u16 0, .int .u16 0, .slice none 0 0, .slice none 0 0, .slice none 0 0, .slice none 0 0, .slice none 0 0] := bC.set 6 (.int .u16 st)
      have bM2 := bM.far (p := ⟨g, 6, none⟩) hgne (.int .u16 st)
      have FW2 := FW.setCell (p := ⟨g, 6, none⟩) (.inr hgle) (.int .u16 st)
      rw [hW1] at bC2 bM2 FW2 ⊢
      clear hW1 bC bM FW cB fB cM0 cM1 cM2 cM3 cM4
      have bC := bC2
      have bM := bM2
      have FW := FW2
      clear bC2 bM2 FW2
      have cM0 := bM.cell 0
      have cM1 := bM.cell 1
      have cM2 := bM.cell 2
      have cM3 := bM.cell 3
      have cM4 := bM.cell 4
      simp at cM0 cM1 cM2 cM3 cM4
      have cB := bC.cell 3
      have fB := bC.frozen 3
      simp at cB
      go_upto_region 15 with fail
      obtain ⟨W2, hW2⟩ : ∃ W2, World.setCell W1 ⟨g, 3, none⟩ (.bool ls) = W2 := ⟨_, rfl⟩
      have bC2 : Blk (World.setCell W1 ⟨g, 3, none⟩ (.bool ls)) g 42 #[.int .u8 0, .bool false, .bool false, .bool ls, .bool false, .int .u32 0, .int .u16 st, .int .u32 0, .int .u32 0, .int .u32 0, .int .u32 0, .int .u32 0, .int .u16 0, .int .u16 0, .slice none 0 0, .slice none 0 0, .slice none 0 0, .slice none 0 0, .slice none 0 0] := bC.set 3 (.bool ls)
      have bM2 := bM.far (p := ⟨g, 3, none⟩) hgne (.bool ls)
      have FW2 := FW.setCell (p := ⟨g, 3, none⟩) (.inr hgle) (.bool ls)
      rw [hW2] at bC2 bM2 FW2 ⊢
      clear hW2 bC bM FW cB fB cM0 cM1 cM2 cM3 cM4
      have bC := bC2
      have bM := bM2
      have FW := FW2
      clear bC2 bM2 FW2
      have cM0 := bM.cell 0
      have cM1 := bM.cell 1
      have cM2 := bM.cell 2
      have cM3 := bM.cell 3
      have cM4 := bM.cell 4
      simp at cM0 cM1 cM2 cM3 cM4
      have cB := bC.cell 8
      have fB := bC.frozen 8
      simp at cB
      go_upto_region 16 with fail
      obtain ⟨W3, hW3⟩ : ∃ W3, World.setCell W2 ⟨g, 8, none⟩ (.int .u32 pp) = W3 := ⟨_, rfl⟩
      have bC2 : Blk (World.setCell W2 ⟨g, 8, none⟩ (.int .u32 pp)) g 42 #[.int .u8 0, .bool false, .bool false, .bool ls, .bool false, .int .u32 0, .int .u16 st, .int .u32 0, .int .u32 pp, .int .u32 0, .int .u32 0, .int .u32 0, .int .u16 0, .int .u16 0, .slice none 0 0, .slice none 0 0, .slice none 0 0, .slice none 0 0, .slice none 0 0] := bC.set 8 (.int .u32 pp)
      have bM2 := bM.far (p := ⟨g, 8, none⟩) hgne (.int .u32 pp)
      have FW2 := FW.setCell (p := ⟨g, 8, none⟩) (.inr hgle) (.int .u32 pp)
      rw [hW3] at bC2 bM2 FW2 ⊢
      clear hW3 bC bM FW cB fB cM0 cM1 cM2 cM3 cM4
      have bC := bC2
      have bM := bM2
      have FW := FW2
      clear bC2 bM2 FW2
      have cM0 := bM.cell 0
      have cM1 := bM.cell 1
      have cM2 := bM.cell 2
      have cM3 := bM.cell 3
      have cM4 := bM.cell 4
      simp at cM0 cM1 cM2 cM3 cM4
      have cB := bC.cell 7
      have fB := bC.frozen 7
      simp at cB
      go_upto_region 17 with fail
      rw [HMT.out]
      obtain ⟨W4, hW4⟩ : ∃ W4, World.setCell W3 ⟨g, 7, none⟩ (.int .u32 (mid % 65536)) = W4 := ⟨_, rfl⟩
      have bC2 : Blk (World.setCell W3 ⟨g, 7, none⟩ (.int .u32 (mid % 65536))) g 42 #[.int .u8 0, .bool false, .bool false, .bool ls, .bool false, .int .u32 0, .int .u16 st, .int .u32 (mid % 65536), .int .u32 pp, .int .u32 0, .int .u32 0, .int .u32 0, .int .u16 0, .int .u16 0, .slice none 0 0, .slice none 0 0, .slice none 0 0, .slice none 0 0, .slice none 0 0] := bC.set 7 (.int .u32 (mid % 65536))
      have bM2 := bM.far (p := ⟨g, 7, none⟩) hgne (.int .u32 (mid % 65536))
      have FW2 := FW.setCell (p := ⟨g, 7, none⟩) (.inr hgle) (.int .u32 (mid % 65536))
      rw [hW4] at bC2 bM2 FW2 ⊢
      clear hW4 bC bM FW cB fB cM0 cM1 cM2 cM3 cM4
      have bC := bC2
      have bM := bM2
      have FW := FW2
      clear bC2 bM2 FW2
      have cM0 := bM.cell 0
      have cM1 := bM.cell 1
      have cM2 := bM.cell 2
      have cM3 := bM.cell 3
      have cM4 := bM.cell 4
      simp at cM0 cM1 cM2 cM3 cM4
      cases inter with
      | true =>
        go_upto_region 18 with fail
        have cB := bC.cell 0
        have fB := bC.frozen 0
        simp at cB
        go_upto_region 19 with fail
        obtain ⟨W5, hW5⟩ : ∃ W5, World.setCell W4 ⟨g, 0, none⟩ (.int .u8 64) = W5 := ⟨_, rfl⟩
        have bC2 : Blk (World.setCell W4 ⟨g, 0, none⟩ (.int .u8 64)) g 42 #[.int .u8 64, .bool false, .bool false, .bool ls, .bool false, .int .u32 0, .int .u16 st, .int .u32 (mid % 65536), .int .u32 pp, .int .u32 0, .int .u32 0, .int .u32 0, .int .u16 0, .int .u16 0, .slice none 0 0, .slice none 0 0, .slice none 0 0, .slice none 0 0, .slice none 0 0] := bC.set 0 (.int .u8 64)
        have bM2 := bM.far (p := ⟨g, 0, none⟩) hgne (.int .u8 64)
        have FW2 := FW.setCell (p := ⟨g, 0, none⟩) (.inr hgle) (.int .u8 64)
        rw [hW5] at bC2 bM2 FW2 ⊢
        clear hW5 bC bM FW cB fB cM0 cM1 cM2 cM3 cM4
        have bC := bC2
        have bM := bM2
        have FW := FW2
        clear bC2 bM2 FW2
        have cM0 := bM.cell 0
        have cM1 := bM.cell 1
        have cM2 := bM.cell 2
        have cM3 := bM.cell 3
        have cM4 := bM.cell 4
        simp at cM0 cM1 cM2 cM3 cM4
        have cB := bC.cell 7
        have fB := bC.frozen 7
        simp at cB
        go_upto_region 20 with fail
        obtain ⟨W6, hW6⟩ : ∃ W6, World.setCell W5 ⟨g, 7, none⟩ (.int .u32 mid) = W6 := ⟨_, rfl⟩
        have bC2 : Blk (World.setCell W5 ⟨g, 7, none⟩ (.int .u32 mid)) g 42 #[.int .u8 64, .bool false, .bool false, .bool ls, .bool false, .int .u32 0, .int .u16 st, .int .u32 mid, .int .u32 pp, .int .u32 0, .int .u32 0, .int .u32 0, .int .u16 0, .int .u16 0, .slice none 0 0, .slice none 0 0, .slice none 0 0, .slice none 0 0, .slice none 0 0] := bC.set 7 (.int .u32 mid)
        have bM2 := bM.far (p := ⟨g, 7, none⟩) hgne (.int .u32 mid)
        have FW2 := FW.setCell (p := ⟨g, 7, none⟩) (.inr hgle) (.int .u32 mid)
        rw [hW6] at bC2 bM2 FW2 ⊢
        clear hW6 bC bM FW cB fB cM0 cM1 cM2 cM3 cM4
        have bC := bC2
        have bM := bM2
        have FW := FW2
        clear bC2 bM2 FW2
        have cM0 := bM.cell 0
        have cM1 := bM.cell 1
        have cM2 := bM.cell 2
        have cM3 := bM.cell 3
        have cM4 := bM.cell 4
        simp at cM0 cM1 cM2 cM3 cM4
        have cB := bC.cell 9
        have fB := bC.frozen 9
        simp at cB
        have hq := HDV.out
        go_upto_region 21 with fail
        obtain ⟨W7, hW7⟩ : ∃ W7, World.setCell W6 ⟨g, 9, none⟩ (.int .u32 j) = W7 := ⟨_, rfl⟩
        have bC2 : Blk (World.setCell W6 ⟨g, 9, none⟩ (.int .u32 j)) g 42 #[.int .u8 64, .bool false, .bool false, .bool ls, .bool false, .int .u32 0, .int .u16 st, .int .u32 mid, .int .u32 pp, .int .u32 j, .int .u32 0, .int .u32 0, .int .u16 0, .int .u16 0, .slice none 0 0, .slice none 0 0, .slice none 0 0, .slice none 0 0, .slice none 0 0] := bC.set 9 (.int .u32 j)
        have bM2 := bM.far (p := ⟨g, 9, none⟩) hgne (.int .u32 j)
        have FW2 := FW.setCell (p := ⟨g, 9, none⟩) (.inr hgle) (.int .u32 j)
        rw [hW7] at bC2 bM2 FW2 ⊢
        clear hq HDV
        clear hW7 bC bM FW cB fB cM0 cM1 cM2 cM3 cM4
        have bC := bC2
        have bM := bM2
        have FW := FW2
        clear bC2 bM2 FW2
        have cM0 := bM.cell 0
        have cM1 := bM.cell 1
        have cM2 := bM.cell 2
        have cM3 := bM.cell 3
        have cM4 := bM.cell 4
        simp at cM0 cM1 cM2 cM3 cM4
        have cB := bC.cell 1
        have fB := bC.frozen 1
        simp at cB
        go_upto_region 22 with fail
        obtain ⟨W8, hW8⟩ : ∃ W8, World.setCell W7 ⟨g, 1, none⟩ (.bool ((p : Int) == 0)) = W8 := ⟨_, rfl⟩
        have bC2 : Blk (World.setCell W7 ⟨g, 1, none⟩ (.bool ((p : Int) == 0))) g 42 #[.int .u8 64, .bool ((p : Int) == 0), .bool false, .bool ls, .bool false, .int .u32 0, .int .u16 st, .int .u32 mid, .int .u32 pp, .int .u32 j, .int .u32 0, .int .u32 0, .int .u16 0, .int .u16 0, .slice none 0 0, .slice none 0 0, .slice none 0 0, .slice none 0 0, .slice none 0 0] := bC.set 1 (.bool ((p : Int) == 0))
        have bM2 := bM.far (p := ⟨g, 1, none⟩) hgne (.bool ((p : Int) == 0))
        have FW2 := FW.setCell (p := ⟨g, 1, none⟩) (.inr hgle) (.bool ((p : Int) == 0))
        rw [hW8] at bC2 bM2 FW2 ⊢
        clear hW8 bC bM FW cB fB cM0 cM1 cM2 cM3 cM4
        have bC := bC2
        have bM := bM2
        have FW := FW2
        clear bC2 bM2 FW2
        have cM0 := bM.cell 0
        have cM1 := bM.cell 1
        have cM2 := bM.cell 2
        have cM3 := bM.cell 3
        have cM4 := bM.cell 4
        simp at cM0 cM1 cM2 cM3 cM4
        have cB := bC.cell 2
        have fB := bC.frozen 2
        simp at cB
        go_upto_region 23 with fail
        obtain ⟨W9, hW9⟩ : ∃ W9, World.setCell W8 ⟨g, 2, none⟩ (.bool ((z : Int) == (bs.length : Int))) = W9 := ⟨_, rfl⟩
        have bC2 : Blk (World.setCell W8 ⟨g, 2, none⟩ (.bool ((z : Int) == (bs.length : Int)))) g 42 #[.int .u8 64, .bool ((p : Int) == 0), .bool ((z : Int) == (bs.length : Int)), .bool ls, .bool false, .int .u32 0, .int .u16 st, .int .u32 mid, .int .u32 pp, .int .u32 j, .int .u32 0, .int .u32 0, .int .u16 0, .int .u16 0, .slice none 0 0, .slice none 0 0, .slice none 0 0, .slice none 0 0, .slice none 0 0] := bC.set 2 (.bool ((z : Int) == (bs.length : Int)))
        have bM2 := bM.far (p := ⟨g, 2, none⟩) hgne (.bool ((z : Int) == (bs.length : Int)))
        have FW2 := FW.setCell (p := ⟨g, 2, none⟩) (.inr hgle) (.bool ((z : Int) == (bs.length : Int)))
        rw [hW9] at bC2 bM2 FW2 ⊢
        clear hW9 bC bM FW cB fB cM0 cM1 cM2 cM3 cM4
        have bC := bC2
        have bM := bM2
        have FW := FW2
        clear bC2 bM2 FW2
        have cM0 := bM.cell 0
        have cM1 := bM.cell 1
        have cM2 := bM.cell 2
        have cM3 := bM.cell 3
        have cM4 := bM.cell 4
        simp at cM0 cM1 cM2 cM3 cM4
        have X9 := SlB.fr X FW (fun _ _ _ h => h)
        have HO9 := Lib.hid (OwnCk.fr O FW (fun _ _ h => h))
        have hgb0 : w.heap.size ≤ wr.heap.size := B.size
        obtain ⟨A3, c3, e3, h31, h32, h33, rd⟩ := X9
        injection e3 with e3 el4 e4
        subst e3; subst e4
        have rE : RdB W9 lo hi (some (ad.add p)) ((bs.take z).drop p) := by
          have h := (rd.take z).drop (n := p) (cap := c) (by simp; omega) (by simp; omega)
          rw [if_neg (by omega)] at h
          exact h
        have hyl : z - p = ((bs.take z).drop p).length := by simp; omega
        have HPC2 := HPC.out
        simp only [if_true] at HPC2
        have hyb : ((bs.take z).drop p).length ≤ 70000 := by have := HN1.out; simp; omega
        clear HPC rd
        generalize (bs.take z).drop p = ys at *
        have own0 : (W9.alloc (.cells #[] 5)).ownsRow W9.heap.size 5 1 (.slice (some ⟨W9.heap.size, 0, none⟩) 0 0) ([] : List Int).length (byts []) :=
          ⟨rfl, .inr ⟨W9.heap.size, 0, #[], rfl, Nat.le_refl _, heap_alloc_new W9 _, Nat.le_refl _, Nat.zero_le _, rfl, rfl⟩⟩
        have rE1 := RdB.fr (S := nothing) rE ((Fr.refl _ W9).alloc (.cells #[] 5)) (fun _ _ _ h => h)
        have cM4' := (bM.alloc (.cells #[] 5)).cell 4
        simp at cM4'
        have hgw := bC.lt
        have hMw := bM.lt
        have hgs := FW.size
        have hapl : ([] : List Int).length + ys.length ≤ 140737488355328 := by simp; omega
        have hbw : W9.heap.size ≤ (W9.alloc (.cells #[] 5)).heap.size := by simp
        obtain ⟨ib, hib, hbz0, hbz1, hbz2⟩ := info_parts info_b
        have HBM9 := Lib.hid bM
        have HBC9 := Lib.hid bC
        have HFW9 := Lib.hid FW
        have HX := Lib.hid X
        have HO := Lib.hid O
        have HP2 := Lib.hid HPC2
        clear bM bC FW rE HPC2 cM0 cM1 cM2 cM3 cM4 X O
        have hpz2 : (p : Int) ≤ z := by omega
        have hzc : (z : Int) ≤ c := by omega
        have HYL := Lib.hid hyl
        clear hyl
        go_upto_region 24 with (first | (at_builtin; go_loud ( refine wpList_append_b _ rfl (.tmp 75) (.tmp 80) _ rfl W9.heap.size 5 ib Try.underlying24 hib hbz0 hbz1 hbz2 _ [] rfl own0 lo hi _ _ _ ys rfl HYL.out rE1 hapl hbw ?_; intro v1 W10 hown hg9 hat; have o1 : OwnB W10 W9.heap.size 5 v1 ys := hown; obtain ⟨B1, c1, rfl, -, -⟩ := OwnB.slice o1; have G1 : Fr (OfV (.slice (some ⟨W9.heap.size, 0, none⟩) 0 0)) _ W10 := (Fr.refl _ _).grown hg9 (fun k hk => .inl hk); have hs1 : ∀ k, OfV (.slice (some ⟨W9.heap.size, 0, none⟩) 0 0) k → k = W9.heap.size := (fun k h => (Option.some.inj h).symm); have F9 : Fr nothing W9 W10 := ((Fr.refl nothing W9).alloc (.cells #[] 5)).trans G1 (fun k h1 h2 => by have := hs1 _ h2; omega); have bC10 := Blk.fr HBC9.out F9 id; have cB := bC10.cell 18; have fB := bC10.frozen 18; simp at cB; have HBM := Lib.hid (Blk.fr HBM9.out F9 id); have HBC := Lib.hid bC10; have HO10 := Lib.hid (OwnCk.fr HO9.out F9 (fun _ _ h => h)); have HFW := Lib.hid (HFW9.out.trans F9 (fun _ _ h => h)); have HOB := Lib.hid o1; clear hown hat G1 own0 rE1 F9 bC10 HBM9 HBC9 HO9 HFW9 o1 cM4' hapl hbw)))
        have hCM := HBM.out.lt
        have bC11 : Blk (World.setCell W10 ⟨g, 18, none⟩ (.slice B1 ys.length c1)) g 42 #[.int .u8 64, .bool ((p : Int) == 0), .bool ((z : Int) == (bs.length : Int)), .bool ls, .bool false, .int .u32 0, .int .u16 st, .int .u32 mid, .int .u32 pp, .int .u32 j, .int .u32 0, .int .u32 0, .int .u16 0, .int .u16 0, .slice none 0 0, .slice none 0 0, .slice none 0 0, .slice none 0 0, .slice B1 ys.length c1] := HBC.out.set 18 (.slice B1 ys.length c1)
        have F10 : Fr (only g) W10 (World.setCell W10 ⟨g, 18, none⟩ (.slice B1 ys.length c1)) := (Fr.refl _ _).set_only 18 none _
        generalize World.setCell W10 ⟨g, 18, none⟩ (.slice B1 ys.length c1) = W11 at *
        have hn10 : ∀ k, wr.heap.size > k → ¬ only g k := fun k h h2 => by have h9 : k = g := h2; omega
        have FW11 : Fr nothing wr W11 := HFW.out.trans F10 (fun k h h2 => hn10 k h h2)
        have o11 := OwnB.fr HOB.out F10 (fun k h1 h2 => by have h9 : k = g := h2; exact OwnB.ne HOB.out HBC.out (by decide) (h9 ▸ h1))
        clear HO10 HBM HBC HFW HOB F10 cB fB
        obtain ⟨qs, hps, hql, hrow, hel⟩ := (OwnCk.fr (S := nothing) HO.out FW11 (fun _ _ h => h)).split
        have hAL : Fr nothing W11 (W11.alloc (.cells #[.int .u8 64, .bool ((p : Int) == 0), .bool ((z : Int) == (bs.length : Int)), .bool ls, .bool false, .int .u32 0, .int .u16 st, .int .u32 mid, .int .u32 pp, .int .u32 j, .int .u32 0, .int .u32 0, .int .u16 0, .int .u16 0, .slice none 0 0, .slice none 0 0, .slice none 0 0, .slice none 0 0, .slice B1 ys.length c1] 42)) := (Fr.refl _ W11).alloc _
        have hrow2 := crow_fr (S := nothing) hrow hAL (fun _ _ h => h)
        have hel2 : ∀ q ∈ qs, OwnB (W11.alloc (.cells #[.int .u8 64, .bool ((p : Int) == 0), .bool ((z : Int) == (bs.length : Int)), .bool ls, .bool false, .int .u32 0, .int .u16 st, .int .u32 mid, .int .u32 pp, .int .u32 j, .int .u32 0, .int .u32 0, .int .u16 0, .int .u16 0, .slice none 0 0, .slice none 0 0, .slice none 0 0, .slice none 0 0, .slice B1 ys.length c1] 42)) w.heap.size 5 q.2 q.1.body ∧ ∀ k, q.2.ownBlock = some k → u8.ownBlock ≠ some k := fun q hq => ⟨OwnB.fr (hel q hq).1 (S := nothing) hAL (fun _ _ h => h), (hel q hq).2⟩
        have oC := OwnB.low (OwnB.fr o11 (S := nothing) hAL (fun _ _ h => h)) (show w.heap.size ≤ W9.heap.size by omega)
        have hne1 : ∀ k, (Value.slice B1 ys.length c1).ownBlock = some k → u8.ownBlock ≠ some k := fun k h1 h2 => by have := OwnB.ge o11 k h1; have := (HO.out.lt k h2).2; omega
        have hFA := FW11.trans hAL (fun _ _ h => h)
        have hcell : pcs (piece st ls mid pp true bs m j) (.slice B1 ys.length c1) = [.int .u8 64, .bool ((p : Int) == 0), .bool ((z : Int) == (bs.length : Int)), .bool ls, .bool false, .int .u32 0, .int .u16 st, .int .u32 mid, .int .u32 pp, .int .u32 j, .int .u32 0, .int .u32 0, .int .u16 0, .int .u16 0, .slice none 0 0, .slice none 0 0, .slice none 0 0, .slice none 0 0, .slice B1 ys.length c1] := by
          rw [HP2.out, ← HBG.out, ← HEN.out]; rfl
        have hnews := new_list W11 [.int .u8 64, .bool ((p : Int) == 0), .bool ((z : Int) == (bs.length : Int)), .bool ls, .bool false, .int .u32 0, .int .u16 st, .int .u32 mid, .int .u32 pp, .int .u32 j, .int .u32 0, .int .u32 0, .int .u16 0, .int .u16 0, .slice none 0 0, .slice none 0 0, .slice none 0 0, .slice none 0 0, .slice B1 ys.length c1] 42
        obtain ⟨i0, hi0, hz0, hz1, hz2⟩ := info_parts info_c
        have hqj : qs.length ≤ 70000 := by
          have h1 : qs.length ≤ j := by rw [hql, List.length_take]; exact Nat.min_le_left _ _
          exact Nat.le_trans h1 (by clear hrow2 hel2 oC hne1 hFA hcell hnews; omega)
        replace hps := Lib.hid hps
        clear hql hrow hel
        have hin : qs.length + 1 ≤ maxLen := by unfold maxLen; omega
        have hby : (qs.length + 1) * 160 ≤ 140737488355328 := by omega
        have hgb : w.heap.size ≤ (W11.alloc (.cells #[.int .u8 64, .bool ((p : Int) == 0), .bool ((z : Int) == (bs.length : Int)), .bool ls, .bool false, .int .u32 0, .int .u16 st, .int .u32 mid, .int .u32 pp, .int .u32 j, .int .u32 0, .int .u32 0, .int .u16 0, .int .u16 0, .slice none 0 0, .slice none 0 0, .slice none 0 0, .slice none 0 0, .slice B1 ys.length c1] 42)).heap.size := Nat.le_trans hgb0 hFA.size
        replace hcell := Lib.hid hcell
        replace hnews := Lib.hid hnews
        replace hrow2 := Lib.hid hrow2
        replace hel2 := Lib.hid hel2
        replace oC := Lib.hid oC
        replace hne1 := Lib.hid hne1
        replace hFA := Lib.hid hFA
        replace FW11 := Lib.hid FW11
        clear hAL el4 h31 h32 h33
        refine wp_region_lit ?_
        refine wpList_plain rfl (fun K hK => ?_)
        go_simp
        refine hK _ _ ?_
        clear hK K
        refine wpList_plain rfl (fun K hK => ?_)
        refine oper_load rfl rfl bC11 hup rfl (by kernel_rfl) ?_
        refine hK _ _ ?_
        clear hK K
        replace bC11 := Lib.hid bC11
        refine wpList_plain rfl (fun K hK => ?_)
        refine oper_build_one _ #[.int .u8 64, .bool ((p : Int) == 0), .bool ((z : Int) == (bs.length : Int)), .bool ls, .bool false, .int .u32 0, .int .u16 st, .int .u32 mid, .int .u32 pp, .int .u32 j, .int .u32 0, .int .u32 0, .int .u16 0, .int .u16 0, .slice none 0 0, .slice none 0 0, .slice none 0 0, .slice none 0 0, .slice B1 ys.length c1] rfl rfl rfl ?_
        refine hK _ _ ?_
        clear hK K
        refine wpList_append_c _ rfl _ _ 28 rfl w.heap.size 42 i0 _ 19 160 Try.underlying28 hi0 hz0 hz1 hz2 rfl (by decide) _ qs.length (ccells qs) rfl hrow2.out ⟨W11.heap.size, 0, none⟩ 1 1 [.int .u8 64, .bool ((p : Int) == 0), .bool ((z : Int) == (bs.length : Int)), .bool ls, .bool false, .int .u32 0, .int .u16 st, .int .u32 mid, .int .u32 pp, .int .u32 j, .int .u32 0, .int .u32 0, .int .u16 0, .int .u16 0, .slice none 0 0, .slice none 0 0, .slice none 0 0, .slice none 0 0, .slice B1 ys.length c1] rfl rfl hnews.out (by intro u hu; simp at hu; rcases hu with rfl | rfl | rfl | rfl | rfl | rfl | rfl | rfl | rfl | rfl | rfl | rfl | rfl | rfl | rfl | rfl | rfl | rfl | rfl <;> rfl) hin hby hgb ?_
        intro v' w1 hown hgrow hat
        have O2 := OwnCk.more (p := piece st ls mid pp true bs m j) hps.out hel2.out (by rw [HP2.out]; exact oC.out) hne1.out (by rw [hcell.out]; exact hown) hgrow hat
        rw [take_more _ _ _ _ _ _ _ _ HJ.out] at O2
        have FG : Fr (OfV u8) _ w1 := (Fr.refl _ _).grown hgrow (fun k hk => .inl hk)
        have FT : Fr (OfV u8) wr w1 := (hFA.out.mono (S' := OfV u8) (fun k _ h => False.elim h)).trans FG (fun k _ h => h)
        have hne2 : ¬ OfV u8 w.heap.size := fun h => by
          have bMA := Blk.fr bM hFA.out id
          rcases hrow2.out.2 with ⟨e, _⟩ | ⟨g', cap, cur, e, _, hg', _⟩
          · rw [e] at h; cases h
          · rw [e] at h
            have e2 : g' = w.heap.size := Option.some.inj h
            rw [e2] at hg'
            have := hg'.symm.trans bMA
            simp at this
        have hlo : ∀ k, OfV u8 k → w.heap.size ≤ k := fun k h => (HO.out.lt k h).1
        have HBM := Lib.hid (Blk.fr bM FT hne2)
        have HSX := Lib.hid (SlB.fr HX.out FT (fun k _ h2 h3 => by have := hlo k h3; omega))
        have HBW := Lib.hid (Bl.trans B (Bl.of_fr FT B.size hlo))
        have HO2 := Lib.hid O2
        clear O2 FG FT hne2 hlo hown hgrow hat bM B hFA hrow2 hel2 oC hne1 hcell hnews
        refine wpList_plain rfl (fun K hK => ?_)
        go_simp
        refine hK _ _ ?_
        clear hK K
        refine wpList_nil ?_
        go_wp2
        go_roundw
        case rel => exact ⟨j + 1, show j < npc m bs from HJ.out, congrArg (Value.int .i64) HAD.out, HO2.out, HBM.out, HSX.out, HBW.out⟩
        case measure => exact meas4 _ _ _ j _ HAD.out HSM.out HM0.out hpl
      | false =>
        have cB := bC.cell 1
        have fB := bC.frozen 1
        simp at cB
        go_upto_region 22 with fail
        obtain ⟨W8, hW8⟩ : ∃ W8, World.setCell W4 ⟨g, 1, none⟩ (.bool ((p : Int) == 0)) = W8 := ⟨_, rfl⟩
        have bC2 : Blk (World.setCell W4 ⟨g, 1, none⟩ (.bool ((p : Int) == 0))) g 42 #[.int .u8 0, .bool ((p : Int) == 0), .bool false, .bool ls, .bool false, .int .u32 0, .int .u16 st, .int .u32 (mid % 65536), .int .u32 pp, .int .u32 0, .int .u32 0, .int .u32 0, .int .u16 0, .int .u16 0, .slice none 0 0, .slice none 0 0, .slice none 0 0, .slice none 0 0, .slice none 0 0] := bC.set 1 (.bool ((p : Int) == 0))
        have bM2 := bM.far (p := ⟨g, 1, none⟩) hgne (.bool ((p : Int) == 0))
        have FW2 := FW.setCell (p := ⟨g, 1, none⟩) (.inr hgle) (.bool ((p : Int) == 0))
        rw [hW8] at bC2 bM2 FW2 ⊢
        clear hW8 bC bM FW cB fB cM0 cM1 cM2 cM3 cM4
        have bC := bC2
        have bM := bM2
        have FW := FW2
        clear bC2 bM2 FW2
        have cM0 := bM.cell 0
        have cM1 := bM.cell 1
        have cM2 := bM.cell 2
        have cM3 := bM.cell 3
        have cM4 := bM.cell 4
        simp at cM0 cM1 cM2 cM3 cM4
        have cB := bC.cell 2
        have fB := bC.frozen 2
        simp at cB
        go_upto_region 23 with fail
        obtain ⟨W9, hW9⟩ : ∃ W9, World.setCell W8 ⟨g, 2, none⟩ (.bool ((z : Int) == (bs.length : Int))) = W9 := ⟨_, rfl⟩
        have bC2 : Blk (World.setCell W8 ⟨g, 2, none⟩ (.bool ((z : Int) == (bs.length : Int)))) g 42 #[.int .u8 0, .bool ((p : Int) == 0), .bool ((z : Int) == (bs.length : Int)), .bool ls, .bool false, .int .u32 0, .int .u16 st, .int .u32 (mid % 65536), .int .u32 pp, .int .u32 0, .int .u32 0, .int .u32 0, .int .u16 0, .int .u16 0, .slice none 0 0, .slice none 0 0, .slice none 0 0, .slice none 0 0, .slice none 0 0] := bC.set 2 (.bool ((z : Int) == (bs.length : Int)))
        have bM2 := bM.far (p := ⟨g, 2, none⟩) hgne (.bool ((z : Int) == (bs.length : Int)))
        have FW2 := FW.setCell (p := ⟨g, 2, none⟩) (.inr hgle) (.bool ((z : Int) == (bs.length : Int)))
        rw [hW9] at bC2 bM2 FW2 ⊢
        clear hW9 bC bM FW cB fB cM0 cM1 cM2 cM3 cM4
        have bC := bC2
        have bM := bM2
        have FW := FW2
        clear bC2 bM2 FW2
        have cM0 := bM.cell 0
        have cM1 := bM.cell 1
        have cM2 := bM.cell 2
        have cM3 := bM.cell 3
        have cM4 := bM.cell 4
        simp at cM0 cM1 cM2 cM3 cM4
        have X9 := SlB.fr X FW (fun _ _ _ h => h)
        have HO9 := Lib.hid (OwnCk.fr O FW (fun _ _ h => h))
        have hgb0 : w.heap.size ≤ wr.heap.size := B.size
        obtain ⟨A3, c3, e3, h31, h32, h33, rd⟩ := X9
        injection e3 with e3 el4 e4
        subst e3; subst e4
        have rE : RdB W9 lo hi (some (ad.add p)) ((bs.take z).drop p) := by
          have h := (rd.take z).drop (n := p) (cap := c) (by simp; omega) (by simp; omega)
          rw [if_neg (by omega)] at h
          exact h
        have hyl : z - p = ((bs.take z).drop p).length := by simp; omega
        have HPC2 := HPC.out
        simp only [Bool.false_eq_true, if_false] at HPC2
        have hyb : ((bs.take z).drop p).length ≤ 70000 := by have := HN1.out; simp; omega
        clear HPC rd
        generalize (bs.take z).drop p = ys at *
        have own0 : (W9.alloc (.cells #[] 5)).ownsRow W9.heap.size 5 1 (.slice (some ⟨W9.heap.size, 0, none⟩) 0 0) ([] : List Int).length (byts []) :=
          ⟨rfl, .inr ⟨W9.heap.size, 0, #[], rfl, Nat.le_refl _, heap_alloc_new W9 _, Nat.le_refl _, Nat.zero_le _, rfl, rfl⟩⟩
        have rE1 := RdB.fr (S := nothing) rE ((Fr.refl _ W9).alloc (.cells #[] 5)) (fun _ _ _ h => h)
        have cM4' := (bM.alloc (.cells #[] 5)).cell 4
        simp at cM4'
        have hgw := bC.lt
        have hMw := bM.lt
        have hgs := FW.size
        have hapl : ([] : List Int).length + ys.length ≤ 140737488355328 := by simp; omega
        have hbw : W9.heap.size ≤ (W9.alloc (.cells #[] 5)).heap.size := by simp
        obtain ⟨ib, hib, hbz0, hbz1, hbz2⟩ := info_parts info_b
        have HBM9 := Lib.hid bM
        have HBC9 := Lib.hid bC
        have HFW9 := Lib.hid FW
        have HX := Lib.hid X
        have HO := Lib.hid O
        have HP2 := Lib.hid HPC2
        clear bM bC FW rE HPC2 cM0 cM1 cM2 cM3 cM4 X O
        have hpz2 : (p : Int) ≤ z := by omega
        have hzc : (z : Int) ≤ c := by omega
        have HYL := Lib.hid hyl
        clear hyl
        go_upto_region 24 with (first | (at_builtin; go_loud ( refine wpList_append_b _ rfl (.tmp 75) (.tmp 80) _ rfl W9.heap.size 5 ib Try.underlying24 hib hbz0 hbz1 hbz2 _ [] rfl own0 lo hi _ _ _ ys rfl HYL.out rE1 hapl hbw ?_; intro v1 W10 hown hg9 hat; have o1 : OwnB W10 W9.heap.size 5 v1 ys := hown; obtain ⟨B1, c1, rfl, -, -⟩ := OwnB.slice o1; have G1 : Fr (OfV (.slice (some ⟨W9.heap.size, 0, none⟩) 0 0)) _ W10 := (Fr.refl _ _).grown hg9 (fun k hk => .inl hk); have hs1 : ∀ k, OfV (.slice (some ⟨W9.heap.size, 0, none⟩) 0 0) k → k = W9.heap.size := (fun k h => (Option.some.inj h).symm); have F9 : Fr nothing W9 W10 := ((Fr.refl nothing W9).alloc (.cells #[] 5)).trans G1 (fun k h1 h2 => by have := hs1 _ h2; omega); have bC10 := Blk.fr HBC9.out F9 id; have cB := bC10.cell 18; have fB := bC10.frozen 18; simp at cB; have HBM := Lib.hid (Blk.fr HBM9.out F9 id); have HBC := Lib.hid bC10; have HO10 := Lib.hid (OwnCk.fr HO9.out F9 (fun _ _ h => h)); have HFW := Lib.hid (HFW9.out.trans F9 (fun _ _ h => h)); have HOB := Lib.hid o1; clear hown hat G1 own0 rE1 F9 bC10 HBM9 HBC9 HO9 HFW9 o1 cM4' hapl hbw)))
        have hCM := HBM.out.lt
        have bC11 : Blk (World.setCell W10 ⟨g, 18, none⟩ (.slice B1 ys.length c1)) g 42 #[.int .u8 0, .bool ((p : Int) == 0), .bool ((z : Int) == (bs.length : Int)), .bool ls, .bool false, .int .u32 0, .int .u16 st, .int .u32 (mid % 65536), .int .u32 pp, .int .u32 0, .int .u32 0, .int .u32 0, .int .u16 0, .int .u16 0, .slice none 0 0, .slice none 0 0, .slice none 0 0, .slice none 0 0, .slice B1 ys.length c1] := HBC.out.set 18 (.slice B1 ys.length c1)
        have F10 : Fr (only g) W10 (World.setCell W10 ⟨g, 18, none⟩ (.slice B1 ys.length c1)) := (Fr.refl _ _).set_only 18 none _
        generalize World.setCell W10 ⟨g, 18, none⟩ (.slice B1 ys.length c1) = W11 at *
        have hn10 : ∀ k, wr.heap.size > k → ¬ only g k := fun k h h2 => by have h9 : k = g := h2; omega
        have FW11 : Fr nothing wr W11 := HFW.out.trans F10 (fun k h h2 => hn10 k h h2)
        have o11 := OwnB.fr HOB.out F10 (fun k h1 h2 => by have h9 : k = g := h2; exact OwnB.ne HOB.out HBC.out (by decide) (h9 ▸ h1))
        clear HO10 HBM HBC HFW HOB F10 cB fB
        obtain ⟨qs, hps, hql, hrow, hel⟩ := (OwnCk.fr (S := nothing) HO.out FW11 (fun _ _ h => h)).split
        have hAL : Fr nothing W11 (W11.alloc (.cells #[.int .u8 0, .bool ((p : Int) == 0), .bool ((z : Int) == (bs.length : Int)), .bool ls, .bool false, .int .u32 0, .int .u16 st, .int .u32 (mid % 65536), .int .u32 pp, .int .u32 0, .int .u32 0, .int .u32 0, .int .u16 0, .int .u16 0, .slice none 0 0, .slice none 0 0, .slice none 0 0, .slice none 0 0, .slice B1 ys.length c1] 42)) := (Fr.refl _ W11).alloc _
        have hrow2 := crow_fr (S := nothing) hrow hAL (fun _ _ h => h)
        have hel2 : ∀ q ∈ qs, OwnB (W11.alloc (.cells #[.int .u8 0, .bool ((p : Int) == 0), .bool ((z : Int) == (bs.length : Int)), .bool ls, .bool false, .int .u32 0, .int .u16 st, .int .u32 (mid % 65536), .int .u32 pp, .int .u32 0, .int .u32 0, .int .u32 0, .int .u16 0, .int .u16 0, .slice none 0 0, .slice none 0 0, .slice none 0 0, .slice none 0 0, .slice B1 ys.length c1] 42)) w.heap.size 5 q.2 q.1.body ∧ ∀ k, q.2.ownBlock = some k → u8.ownBlock ≠ some k := fun q hq => ⟨OwnB.fr (hel q hq).1 (S := nothing) hAL (fun _ _ h => h), (hel q hq).2⟩
        have oC := OwnB.low (OwnB.fr o11 (S := nothing) hAL (fun _ _ h => h)) (show w.heap.size ≤ W9.heap.size by omega)
        have hne1 : ∀ k, (Value.slice B1 ys.length c1).ownBlock = some k → u8.ownBlock ≠ some k := fun k h1 h2 => by have := OwnB.ge o11 k h1; have := (HO.out.lt k h2).2; omega
        have hFA := FW11.trans hAL (fun _ _ h => h)
        have hcell : pcs (piece st ls mid pp false bs m j) (.slice B1 ys.length c1) = [.int .u8 0, .bool ((p : Int) == 0), .bool ((z : Int) == (bs.length : Int)), .bool ls, .bool false, .int .u32 0, .int .u16 st, .int .u32 (mid % 65536), .int .u32 pp, .int .u32 0, .int .u32 0, .int .u32 0, .int .u16 0, .int .u16 0, .slice none 0 0, .slice none 0 0, .slice none 0 0, .slice none 0 0, .slice B1 ys.length c1] := by
          rw [HP2.out, ← HBG.out, ← HEN.out]; rfl
        have hnews := new_list W11 [.int .u8 0, .bool ((p : Int) == 0), .bool ((z : Int) == (bs.length : Int)), .bool ls, .bool false, .int .u32 0, .int .u16 st, .int .u32 (mid % 65536), .int .u32 pp, .int .u32 0, .int .u32 0, .int .u32 0, .int .u16 0, .int .u16 0, .slice none 0 0, .slice none 0 0, .slice none 0 0, .slice none 0 0, .slice B1 ys.length c1] 42
        obtain ⟨i0, hi0, hz0, hz1, hz2⟩ := info_parts info_c
        have hqj : qs.length ≤ 70000 := by
          have h1 : qs.length ≤ j := by rw [hql, List.length_take]; exact Nat.min_le_left _ _
          exact Nat.le_trans h1 (by clear hrow2 hel2 oC hne1 hFA hcell hnews; omega)
        replace hps := Lib.hid hps
        clear hql hrow hel
        have hin : qs.length + 1 ≤ maxLen := by unfold maxLen; omega
        have hby : (qs.length + 1) * 160 ≤ 140737488355328 := by omega
        have hgb : w.heap.size ≤ (W11.alloc (.cells #[.int .u8 0, .bool ((p : Int) == 0), .bool ((z : Int) == (bs.length : Int)), .bool ls, .bool false, .int .u32 0, .int .u16 st, .int .u32 (mid % 65536), .int .u32 pp, .int .u32 0, .int .u32 0, .int .u32 0, .int .u16 0, .int .u16 0, .slice none 0 0, .slice none 0 0, .slice none 0 0, .slice none 0 0, .slice B1 ys.length c1] 42)).heap.size := Nat.le_trans hgb0 hFA.size
        replace hcell := Lib.hid hcell
        replace hnews := Lib.hid hnews
        replace hrow2 := Lib.hid hrow2
        replace hel2 := Lib.hid hel2
        replace oC := Lib.hid oC
        replace hne1 := Lib.hid hne1
        replace hFA := Lib.hid hFA
        replace FW11 := Lib.hid FW11
        clear hAL el4 h31 h32 h33
        refine wp_region_lit ?_
        refine wpList_plain rfl (fun K hK => ?_)
        go_simp
        refine hK _ _ ?_
        clear hK K
        refine wpList_plain rfl (fun K hK => ?_)
        refine oper_load rfl rfl bC11 hup rfl (by kernel_rfl) ?_
        refine hK _ _ ?_
        clear hK K
        replace bC11 := Lib.hid bC11
        refine wpList_plain rfl (fun K hK => ?_)
        refine oper_build_one _ #[.int .u8 0, .bool ((p : Int) == 0), .bool ((z : Int) == (bs.length : Int)), .bool ls, .bool false, .int .u32 0, .int .u16 st, .int .u32 (mid % 65536), .int .u32 pp, .int .u32 0, .int .u32 0, .int .u32 0, .int .u16 0, .int .u16 0, .slice none 0 0, .slice none 0 0, .slice none 0 0, .slice none 0 0, .slice B1 ys.length c1] rfl rfl rfl ?_
        refine hK _ _ ?_
        clear hK K
        refine wpList_append_c _ rfl _ _ 28 rfl w.heap.size 42 i0 _ 19 160 Try.underlying28 hi0 hz0 hz1 hz2 rfl (by decide) _ qs.length (ccells qs) rfl hrow2.out ⟨W11.heap.size, 0, none⟩ 1 1 [.int .u8 0, .bool ((p : Int) == 0), .bool ((z : Int) == (bs.length : Int)), .bool ls, .bool false, .int .u32 0, .int .u16 st, .int .u32 (mid % 65536), .int .u32 pp, .int .u32 0, .int .u32 0, .int .u32 0, .int .u16 0, .int .u16 0, .slice none 0 0, .slice none 0 0, .slice none 0 0, .slice none 0 0, .slice B1 ys.length c1] rfl rfl hnews.out (by intro u hu; simp at hu; rcases hu with rfl | rfl | rfl | rfl | rfl | rfl | rfl | rfl | rfl | rfl | rfl | rfl | rfl | rfl | rfl | rfl | rfl | rfl | rfl <;> rfl) hin hby hgb ?_
        intro v' w1 hown hgrow hat
        have O2 := OwnCk.more (p := piece st ls mid pp false bs m j) hps.out hel2.out (by rw [HP2.out]; exact oC.out) hne1.out (by rw [hcell.out]; exact hown) hgrow hat
        rw [take_more _ _ _ _ _ _ _ _ HJ.out] at O2
        have FG : Fr (OfV u8) _ w1 := (Fr.refl _ _).grown hgrow (fun k hk => .inl hk)
        have FT : Fr (OfV u8) wr w1 := (hFA.out.mono (S' := OfV u8) (fun k _ h => False.elim h)).trans FG (fun k _ h => h)
        have hne2 : ¬ OfV u8 w.heap.size := fun h => by
          have bMA := Blk.fr bM hFA.out id
          rcases hrow2.out.2 with ⟨e, _⟩ | ⟨g', cap, cur, e, _, hg', _⟩
          · rw [e] at h; cases h
          · rw [e] at h
            have e2 : g' = w.heap.size := Option.some.inj h
            rw [e2] at hg'
            have := hg'.symm.trans bMA
            simp at this
        have hlo : ∀ k, OfV u8 k → w.heap.size ≤ k := fun k h => (HO.out.lt k h).1
        have HBM := Lib.hid (Blk.fr bM FT hne2)
        have HSX := Lib.hid (SlB.fr HX.out FT (fun k _ h2 h3 => by have := hlo k h3; omega))
        have HBW := Lib.hid (Bl.trans B (Bl.of_fr FT B.size hlo))
        have HO2 := Lib.hid O2
        clear O2 FG FT hne2 hlo hown hgrow hat bM B hFA hrow2 hel2 oC hne1 hcell hnews
        refine wpList_plain rfl (fun K hK => ?_)
        go_simp
        refine hK _ _ ?_
        clear hK K
        refine wpList_nil ?_
        go_wp2
        go_roundw
        case rel => exact ⟨j + 1, show j < npc m bs from HJ.out, congrArg (Value.int .i64) HAD.out, HO2.out, HBM.out, HSX.out, HBW.out⟩
        case measure => exact meas4 _ _ _ j _ HAD.out HSM.out HM0.out hpl
    · have hge := pk_ge hm0 hlt
      have hjn : j = npc m bs := Nat.le_antisymm hj hge
      have hpl : ¬ ((j * m : Nat) : Int) < bs.length := by omega
      rw [hjn, List.take_of_length_le (by rw [pieces_len]; exact Nat.le_refl _)] at O
      obtain ⟨AO, cO, eO⟩ := O.shape
      rw [pieces_len] at eO
      subst eO
      clear hge hjn hlt hj
      generalize j * m = p at *
      go_wp2
      go_ret2
      exact ⟨_, _, rfl, O, B⟩
theorem rcut_calls (lo hi : Nat) (st mid pp : Int) (ls : Bool) (A : Option Addr) (c : Nat) (bs : List Int) (most : Int) (inter : Bool) (w : World) (h : SlB w lo hi (.slice A bs.length c) bs) (hhi : hi ≤ w.heap.size) (hmid : 0 ≤ mid ∧ mid < 4294967296) :
    Calls Try.prog 9 #[.agg #[.int .u16 st, .bool ls, .int .u32 mid, .int .u32 pp, .slice A bs.length c], .int .i64 most, .bool inter] w (CutR w st ls mid pp bs most inter) := by
  by_cases he : cutE most inter bs.length = 0
  · obtain ⟨h1, h2, h3, h4⟩ := cutE_ok he
    have hX := h
    obtain ⟨A', c', e, g1, g2, g3, g4⟩ := h
    injection e with e1 _ e3
    subst e1; subst e3
    obtain ⟨ad, rfl, -⟩ := g4.at_ 0 h3
    obtain ⟨m, rfl⟩ : ∃ m : Nat, most = m := ⟨most.toNat, by omega⟩
    refine (rcut_ok lo hi st mid pp ls ad c bs m inter w hX hhi (by omega) h2 h3 h4 hmid).mono ?_
    rintro e w' ⟨B, c', he', ho, hb⟩
    exact ⟨hb, .inl ⟨he, B, c', by simpa using he', by simpa using ho⟩⟩
  · refine (rcut_bad st mid pp ls A c bs most inter w he).mono ?_
    rintro e w' ⟨he', hb⟩
    exact ⟨hb, .inr ⟨he, he'⟩⟩
end Go.Proofs.Ytnhkmapeleomkaa.Frag
