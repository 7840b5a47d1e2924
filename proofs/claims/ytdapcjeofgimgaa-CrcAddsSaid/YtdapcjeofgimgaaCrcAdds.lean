/- The walk of flumelaw03.CrcAdds: true for all bytes. No conditions but the row's own. -/
import Derived.Test.YtdapcjeofgimgaaCrcFlip
import Derived.Test.YtdapcjeofgimgaaRegInv
import Derived.Deep.Cut
namespace Go.Proofs.Ytdapcjeofgimgaa.CrcAdds
open Go.RowKit Go.Proofs.Ytdapcjeofgimgaa.Mem Go.Proofs.Ytdapcjeofgimgaa.Octet Go.Proofs.Ytdapcjeofgimgaa.Crc
set_option linter.unusedVariables false
set_option linter.unusedSimpArgs false
theorem min_four (ats : Array TypeId) (ty : TypeId) (k : IntKind) (a b c d : Int) : Builtin.min_ ats ty #[.int k a, .int k b, .int k c, .int k d] = pure (.int k (mn (mn (mn a b) c) d)) := by
  simp only [Builtin.min_, List.foldlM_cons, List.foldlM_nil, min2_mn, pure_bind]
attribute [local go_sem] max2_mx min2_mn max_two min_two min_four
/-- A cell of a row of its own, what stands in it, and the row behind a store. -/
theorem own_upd {w : World} {m : Nat} {A : Option Addr} {n cap : Nat} {bs : List Int} (h : OwnB w m 5 (.slice A n cap) bs) (k : Nat) (hk : k < n) :
    ∃ ad, A = some ad ∧ w.cell? (ad.add k) = some (.int .u8 (bs.getD k 0)) ∧ w.frozen? (ad.add k) = false ∧ m ≤ (ad.add k).block ∧
      ∀ x, OwnB (w.setCell (ad.add k) (.int .u8 x)) m 5 (.slice A n cap) (bs.set k x) := by
  have h' := RdB.of_own h
  obtain ⟨ad, e, -, ⟨x, hx⟩, h3, h4, h5⟩ := own_put h k hk
  refine ⟨ad, e, ?_, h3, h4, h5⟩
  obtain ⟨A', c', e2, -, -, hr⟩ := h'
  injection e2 with e3 e4 _
  subst e3; subst e4
  obtain ⟨ad', e5, hc⟩ := hr.at_ k hk
  rw [e] at e5; injection e5 with e5; subst e5
  rw [hc]
  simp [hk]
theorem mk_own (w : World) (m n : Nat) (hm : m ≤ w.heap.size) (hn : n ≤ 9223372036854775807) : OwnB (w.alloc (.cells (madeCells #[.int .u8 0] n) 5)) m 5 (.slice (some ⟨w.heap.size, 0, none⟩) n n) (List.replicate n 0) := by
  have e : (madeCells #[.int .u8 0] n).toList = byts (List.replicate n 0) := by
    apply List.ext_getElem
    · simp [madeCells, byts]
    · intro i h1 h2
      simp [madeCells, byts, Nat.mod_one]
  refine ⟨by simp [byts], .inr ⟨w.heap.size, n, _, by simp, hm, heap_alloc_new w _, by simp, hn, by simp [size_madeCells], ?_⟩⟩
  rw [List.take_of_length_le (by simp [size_madeCells]), e]
theorem rd_hi {w : World} {lo hi : Nat} {ad : Addr} {xs : List Int} (h : RdB w lo hi (some ad) xs) {k : Nat} (hk : k < xs.length) : (ad.add k).block < hi := by
  rcases h with h | ⟨a', e, h1, h2, h⟩
  · subst h; simp at hk
  · injection e with e; subst e; rw [add_block]; exact h2
theorem Fr.cell {S : Nat → Prop} {w w' : World} (f : Fr S w w') {p : Addr} (hp : p.block < w.heap.size) (hn : ¬ S p.block) : w'.cell? p = w.cell? p := World.cell?_of_block (f.block _ hp hn)
/-- Bytes, xored one by one; the first so many of them, noughts behind. -/
def xl (a m : List Int) (n k : Nat) : List Int := (List.range n).map fun i => if i < k then (((a.getD i 0).toNat ^^^ (m.getD i 0).toNat : Nat) : Int) else 0
theorem xl_len (a m : List Int) (n k : Nat) : (xl a m n k).length = n := by simp [xl]
theorem xl_zero (a m : List Int) (n : Nat) : xl a m n 0 = List.replicate n 0 := by
  apply List.ext_getElem
  · simp [xl]
  · intro i h1 h2; simp [xl]
theorem xl_set (a m : List Int) (n k : Nat) (hk : k < n) : (xl a m n k).set k (((a.getD k 0).toNat ^^^ (m.getD k 0).toNat : Nat) : Int) = xl a m n (k + 1) := by
  apply List.ext_getElem
  · simp [xl]
  · intro i h1 h2
    rw [List.getElem_set]
    by_cases h : k = i
    · subst h; simp [xl]
    · rw [if_neg h]
      simp only [xl, List.getElem_map, List.getElem_range]
      by_cases h3 : i < k
      · rw [if_pos h3, if_pos (by omega)]
      · rw [if_neg h3, if_neg (by omega)]
theorem xor_b (x y : Int) (hx : 0 ≤ x ∧ x < 256) (hy : 0 ≤ y ∧ y < 256) : bits .xor .u8 x y = ((x.toNat ^^^ y.toNat : Nat) : Int) := by
  have := u8_xor_nat x.toNat y.toNat (by omega) (by omega)
  rwa [show ((x.toNat : Nat) : Int) = x by omega, show ((y.toNat : Nat) : Int) = y by omega] at this
theorem rd_own {w : World} {base : Nat} {A : Option Addr} {n c : Nat} {xs : List Int} (h : OwnB w base 5 (.slice A n c) xs) (hl : xs.length = n) : RdB w base w.heap.size A xs := by
  obtain ⟨A', cc, e, h1, h2, h3, h4⟩ := SlB.of_own h
  injection e with e1 _ _
  subst e1
  exact h4
/-- A row of one slice of bytes. -/
def One (w : World) (hi : Nat) (q : Value) (xs : List Int) : Prop := ∃ A, q = .slice A 1 1 ∧ Parts w 0 hi A [xs]
theorem One.alloc {w : World} {hi : Nat} {q : Value} {xs : List Int} (h : One w hi q xs) (o : Obj) : One (w.alloc o) hi q xs := by
  obtain ⟨A, e, h⟩ := h
  refine ⟨A, e, ?_⟩
  rcases h with h | ⟨ad, e2, h⟩
  · exact .inl h
  · refine .inr ⟨ad, e2, fun i hi => ?_⟩
    obtain ⟨B, c, h1, h2⟩ := h i hi
    exact ⟨B, c, (World.cell?_alloc_lt _ _ _ (World.block_lt_of_cell? w _ h1)).trans h1, h2.fr (S := nothing) ((Fr.refl _ _).alloc o) (fun _ _ _ h => h)⟩
theorem one_new {w : World} {hi n c : Nat} {A : Option Addr} {xs : List Int} (h : RdB w 0 hi A xs) (hl : xs.length = n) : One (w.alloc (.cells #[.slice A n c] 22)) hi (.slice (some ⟨w.heap.size, 0, none⟩) 1 1) xs :=
  ⟨_, rfl, parts_row w #[.slice A n c] 0 hi [xs] (by intro i hi2; match i, hi2 with | 0, _ => exact ⟨A, c, by simp [hl], h⟩)⟩
theorem one_sum {w : World} {hi : Nat} {A : Option Addr} {xs : List Int} {n : Nat} (P : Parts w 0 hi A [xs]) (hb : IsB xs) (hl : xs.length = n) (hn : n ≤ 1000) :
    Calls Try.prog 8 #[.slice A 1 1] w fun e w' => e = .returned (.int .u32 (crcS xs)) ∧ w' = w := by
  have := sum_calls 0 hi A 1 [xs] w P (by intro ys hy; simp at hy; subst hy; exact ⟨hb, by omega⟩) (by simp)
  simpa using this
theorem xl_isb {a m : List Int} (ha : IsB a) (hm : IsB m) (n k : Nat) : IsB (xl a m n k) := by
  intro x hx
  simp only [xl, List.mem_map, List.mem_range] at hx
  obtain ⟨i, _, rfl⟩ := hx
  split
  · have h1 := isb_getD ha i
    have h2 := isb_getD hm i
    have := Nat.xor_lt_two_pow (n := 8) (x := (a.getD i 0).toNat) (y := (m.getD i 0).toNat) (by omega) (by omega)
    omega
  · omega
theorem bitf_take (a : List Int) (n b : Nat) (h : b < 8 * n) : bitf (a.take n) b = bitf a b := by
  unfold bitf
  simp [List.getD, List.getElem?_take, show b / 8 < n by omega]
theorem bitf_xl (a m : List Int) (n b : Nat) (h : b < 8 * n) : bitf (xl a m n n) b = bitf a b ^^^ bitf m b := by
  have e : (xl a m n n).getD (b / 8) 0 = (((a.getD (b / 8) 0).toNat ^^^ (m.getD (b / 8) 0).toNat : Nat) : Int) := by
    simp [xl, show b / 8 < n by omega]
  unfold bitf
  rw [e, Int.toNat_natCast, tb, tb, tb, Nat.testBit_xor]
  cases (a.getD (b / 8) 0).toNat.testBit (b % 8) <;> cases (m.getD (b / 8) 0).toNat.testBit (b % 8) <;> rfl
theorem crcS_xor {xs ys : List Int} (hx : IsB xs) (hy : IsB ys) : bits .xor .u32 (crcS xs) (crcS ys) = ((crcR 4294967295 xs ^^^ crcR 4294967295 ys : Nat) : Int) := by
  have h1 := crcR_lt (r := 4294967295) (by decide) hx
  have h2 := crcR_lt (r := 4294967295) (by decide) hy
  unfold crcS
  generalize crcR 4294967295 xs = R1 at *
  generalize crcR 4294967295 ys = R2 at *
  have e := u32_xor_nat (4294967295 ^^^ R1) (4294967295 ^^^ R2) (xor_lt (by decide) h1) (xor_lt (by decide) h2)
  rw [not_xor _ h1, not_xor _ h2] at e
  rw [show (4294967295 : Int) - R1 = ((4294967295 - R1 : Nat) : Int) by omega, show (4294967295 : Int) - R2 = ((4294967295 - R2 : Nat) : Int) by omega, e]
  congr 1
  rw [← not_xor _ h1, ← not_xor _ h2, Nat.xor_assoc, xor_lc R1, ← Nat.xor_assoc, Nat.xor_self, Nat.zero_xor]
theorem adds {a b m : List Int} {n : Nat} (ha : IsB a) (hb : IsB b) (hm : IsB m) (h1 : n ≤ a.length) (h2 : n ≤ b.length) (h3 : n ≤ m.length) :
    bits .xor .u32 (crcS (xl a m n n)) (crcS (xl b m n n)) = bits .xor .u32 (crcS (a.take n)) (crcS (b.take n)) := by
  have ia : IsB (a.take n) := fun x hx => ha x (List.mem_of_mem_take hx)
  have ib : IsB (b.take n) := fun x hx => hb x (List.mem_of_mem_take hx)
  rw [crcS_xor (xl_isb ha hm n n) (xl_isb hb hm n n), crcS_xor ia ib]
  rw [crcR_all _ (xl_isb ha hm n n), crcR_all _ (xl_isb hb hm n n), crcR_all _ ia, crcR_all _ ib, xl_len, xl_len, List.length_take, List.length_take, Nat.min_eq_left h1, Nat.min_eq_left h2, ← bitN_lin, ← bitN_lin]
  congr 1
  refine bitN_congr _ _ _ _ fun i hi => ?_
  rw [bitf_xl _ _ _ _ hi, bitf_xl _ _ _ _ hi, bitf_take _ _ _ hi, bitf_take _ _ _ hi, Nat.xor_assoc, xor_lc (bitf m i), Nat.xor_self, Nat.xor_zero]
set_option maxHeartbeats 4000000 in
set_option maxRecDepth 100000 in
theorem walk (a : Option Addr) (cap : Nat) (l : List Int) (a2 : Option Addr) (cap2 : Nat) (l2 : List Int) (a3 : Option Addr) (cap3 : Nat) (l3 : List Int) (w : World)
    (hr : ReadsI w .u8 a l) (hc : l.length ≤ cap) (hm : cap ≤ maxLen) (hy : l.length * 1 ≤ 140737488351232) (hw : ∀ x ∈ l, (Lit.int .u8 x).wf = true) (hnil : a = none → cap = 0)
    (hr2 : ReadsI w .u8 a2 l2) (hc2 : l2.length ≤ cap2) (hm2 : cap2 ≤ maxLen) (hy2 : l2.length * 1 ≤ 140737488351232) (hw2 : ∀ x ∈ l2, (Lit.int .u8 x).wf = true) (hnil2 : a2 = none → cap2 = 0)
    (hr3 : ReadsI w .u8 a3 l3) (hc3 : l3.length ≤ cap3) (hm3 : cap3 ≤ maxLen) (hy3 : l3.length * 1 ≤ 140737488351232) (hw3 : ∀ x ∈ l3, (Lit.int .u8 x).wf = true) (hnil3 : a3 = none → cap3 = 0) :
    Calls Try.prog 5 #[.slice a l.length cap, .slice a2 l2.length cap2, .slice a3 l3.length cap3] w fun e w' => e = .returned (.bool true) ∧ Below w.heap.size w w' := by
  obtain ⟨n, hn, h1, h2, h3, h4⟩ : ∃ n : Nat, mn (mn (mn (l.length : Int) l2.length) l3.length) 1000 = n ∧ n ≤ l.length ∧ n ≤ l2.length ∧ n ≤ l3.length ∧ n ≤ 1000 := by
    refine ⟨min (min (min l.length l2.length) l3.length) 1000, ?_, by omega, by omega, by omega, by omega⟩
    unfold mn
    split <;> split <;> split <;> omega
  have R1 := rdb_of hr
  have R2 := rdb_of hr2
  have R3 := rdb_of hr3
  have i1 : IsB l := fun x hx => range_u8 x (hw x hx)
  have i2 : IsB l2 := fun x hx => range_u8 x (hw2 x hx)
  have i3 : IsB l3 := fun x hx => range_u8 x (hw3 x hx)
  have HC1 := Lib.hid hc
  have HC2 := Lib.hid hc2
  have HC3 := Lib.hid hc3
  clear hr hr2 hr3 hw hw2 hw3 hy hy2 hy3 hm hm2 hm3 hc hc2 hc3
  have hmk := fun (w' : World) => run_make_row' (P := Try.prog) 22 5 (.int .u8 0) 1 Try.underlying22 info_b rfl .i64 .i64 n (by omega) (by omega) w'
  go_enter Try.func5, Try.ntmps5
  go_wp2_with fail
  refine (first_calls _).mono ?_
  rintro e w0 ⟨rfl, B0⟩
  replace R1 := R1.fr (Bl.fr B0) (fun k _ h3 h4 => by omega)
  replace R2 := R2.fr (Bl.fr B0) (fun k _ h3 h4 => by omega)
  replace R3 := R3.fr (Bl.fr B0) (fun k _ h3 h4 => by omega)
  have hwo := B0.size
  go_upto_region 4 with fail
  go_cut [8, 9] (fun x y wc => ∃ Ax Ay, x = .slice Ax n n ∧ y = .slice Ay n n ∧ OwnB wc w0.heap.size 5 (.slice Ax n n) (List.replicate n 0) ∧ OwnB wc w0.heap.size 5 (.slice Ay n n) (List.replicate n 0) ∧
    (∀ k, (Value.slice Ax n n).ownBlock = some k → (Value.slice Ay n n).ownBlock ≠ some k) ∧ Below w0.heap.size w0 wc)
  case first =>
    have o1 := mk_own w0.drew w0.heap.size n (Nat.le_refl _) (by omega)
    have o2 := mk_own (w0.drew.alloc (.cells (madeCells #[.int .u8 0] n) 5)) w0.heap.size n (by simp) (by omega)
    have o1' := OwnB.fr o1 (S := nothing) ((Fr.refl _ _).alloc (.cells (madeCells #[.int .u8 0] n) 5)) (fun _ _ h => h)
    have BW := ((Below.refl w0.heap.size w0).drew.alloc (by simp) (.cells (madeCells #[.int .u8 0] n) 5)).alloc (by simp) (.cells (madeCells #[.int .u8 0] n) 5)
    rw [show (w0.drew.alloc (.cells (madeCells #[.int .u8 0] n) 5)).heap.size = w0.heap.size + 1 by simp] at o2
    have HO1 := Lib.hid o1'
    have HO2 := Lib.hid o2
    have HBW := Lib.hid BW
    clear o1 o1' o2 BW
    go_region
    all_goals
      go_wp2
      go_meet
    case rel => exact ⟨_, _, rfl, rfl, HO1.out, HO2.out, (fun k h1 h2 => by have e1 : w0.heap.size = k := Option.some.inj h1; have e2 : w0.heap.size + 1 = k := Option.some.inj h2; omega), HBW.out⟩
    case rel => exact ⟨_, _, rfl, rfl, HO2.out, HO1.out, (fun k h1 h2 => by have e1 : w0.heap.size + 1 = k := Option.some.inj h1; have e2 : w0.heap.size = k := Option.some.inj h2; omega), HBW.out⟩
  case rest =>
    obtain ⟨Ax, Ay, rfl, rfl, ox, oy, hne, BC⟩ := hcut
    replace R1 := R1.fr (Bl.fr BC) (fun k _ h3 h4 => by omega)
    replace R2 := R2.fr (Bl.fr BC) (fun k _ h3 h4 => by omega)
    replace R3 := R3.fr (Bl.fr BC) (fun k _ h3 h4 => by omega)
    replace B0 := Bl.trans B0 (Bl.low BC hwo)
    have hsc := BC.size
    clear BC
    rw [← xl_zero l l3 n] at ox
    rw [← xl_zero l2 l3 n] at oy
    go_wp2_with fail
    go_loopw [25] (fun i wr => ∃ k : Nat, k ≤ n ∧ i = .int .i64 k ∧ OwnB wr w0.heap.size 5 (.slice Ax n n) (xl l l3 n k) ∧ OwnB wr w0.heap.size 5 (.slice Ay n n) (xl l2 l3 n k) ∧
      RdB wr 0 w.heap.size a l ∧ RdB wr 0 w.heap.size a2 l2 ∧ RdB wr 0 w.heap.size a3 l3 ∧ Below w.heap.size w wr) (fun i _ => n - (intOf i).toNat)
    case atStart => exact ⟨0, Nat.zero_le _, rfl, ox, oy, R1, R2, R3, B0⟩
    case round =>
      clear ox oy R1 R2 R3 B0
      obtain ⟨k, hk, rfl, ox, oy, R1, R2, R3, B0⟩ := hrel
      by_cases hlt : k < n
      · obtain ⟨b1, rfl, c1⟩ := R1.at_ k (by omega)
        obtain ⟨b2, rfl, c2⟩ := R2.at_ k (by omega)
        obtain ⟨b3, rfl, c3⟩ := R3.at_ k (by omega)
        have g1 := i1 _ (List.getElem_mem (show k < l.length by omega))
        have g2 := i2 _ (List.getElem_mem (show k < l2.length by omega))
        have g3 := i3 _ (List.getElem_mem (show k < l3.length by omega))
        have HX1 := Lib.hid (xl_set l l3 n k hlt)
        have HX2 := Lib.hid (xl_set l2 l3 n k hlt)
        have e1 : l.getD k 0 = l[k]'(by omega) := by simp [show k < l.length by omega]
        have e2 : l2.getD k 0 = l2[k]'(by omega) := by simp [show k < l2.length by omega]
        have e3 : l3.getD k 0 = l3[k]'(by omega) := by simp [show k < l3.length by omega]
        rw [e1, e3] at HX1
        rw [e2, e3] at HX2
        generalize l[k]'(by omega) = x1 at c1 g1 HX1 e1
        generalize l2[k]'(by omega) = x2 at c2 g2 HX2 e2
        generalize l3[k]'(by omega) = x3 at c3 g3 HX1 HX2 e3
        clear e1 e2 e3
        have H2 := Lib.hid (rd_hi R2 (show k < l2.length by omega))
        have H3 := Lib.hid (rd_hi R3 (show k < l3.length by omega))
        have k1 : (k : Int) < l.length := by omega
        have k2 : (k : Int) < l2.length := by omega
        have k3 : (k : Int) < l3.length := by omega
        have hX := xor_b x1 x3 g1 g3
        have hY := xor_b x2 x3 g2 g3
        have hkd : (k : Int) < n := by omega
        obtain ⟨dx, rfl, dc, df, db, dst⟩ := own_upd ox k hlt
        rw [add_block] at db
        have HN := Lib.hid hne
        have f8 : Fr (OfV (.slice (some dx) n n)) wr (wr.setCell (dx.add k) (.int .u8 ((x1.toNat ^^^ x3.toNat : Nat) : Int))).drew := ((Fr.refl _ wr).setCell (.inl (by show some dx.block = some (dx.add k).block; rw [add_block])) _).drew
        have S8 := Lib.hid (OwnB.fr (dst ((x1.toNat ^^^ x3.toNat : Nat) : Int)) (S := nothing) (Fr.refl _ _).drew (fun _ _ h => h))
        rw [HX1.out] at S8
        have F8 := Lib.hid f8
        clear f8 dst hne HX1
        go_upto_region 8 with fail
        go_region
        go_upto_region 9 with fail
        have f8 := F8.out
        have ox := S8.out
        clear F8 S8 dc df hX
        generalize (wr.setCell (dx.add k) (.int .u8 ((x1.toNat ^^^ x3.toNat : Nat) : Int))).drew = wA at f8 ox ⊢
        have hsep : ∀ b, 0 ≤ b → b < w.heap.size → ¬ OfV (.slice (some dx) n n) b := fun b _ h3 h4 => by
          have e : dx.block = b := Option.some.inj h4
          omega
        replace R1 := R1.fr f8 hsep
        replace R2 := R2.fr f8 hsep
        replace R3 := R3.fr f8 hsep
        replace oy := OwnB.fr oy f8 (fun b h1 h2 => HN.out b h2 h1)
        replace B0 := Bl.trans B0 (Bl.of_fr f8 B0.size (fun b h4 => by have e : dx.block = b := Option.some.inj h4; omega))
        have c2' : wA.cell? (b2.add k) = some (.int .u8 x2) := (Fr.cell f8 (World.block_lt_of_cell? _ _ c2) (hsep _ (Nat.zero_le _) H2.out)).trans c2
        have c3' : wA.cell? (b3.add k) = some (.int .u8 x3) := (Fr.cell f8 (World.block_lt_of_cell? _ _ c3) (hsep _ (Nat.zero_le _) H3.out)).trans c3
        clear c1 c2 c3 f8
        have HOX := Lib.hid ox
        obtain ⟨dy, rfl, ec, ef, eb, est⟩ := own_upd oy k hlt
        rw [add_block] at eb
        have f9 : Fr (OfV (.slice (some dy) n n)) wA (wA.setCell (dy.add k) (.int .u8 ((x2.toNat ^^^ x3.toNat : Nat) : Int))).drew := ((Fr.refl _ wA).setCell (.inl (by show some dy.block = some (dy.add k).block; rw [add_block])) _).drew
        have S9 := Lib.hid (OwnB.fr (est ((x2.toNat ^^^ x3.toNat : Nat) : Int)) (S := nothing) (Fr.refl _ _).drew (fun _ _ h => h))
        rw [HX2.out] at S9
        have F9 := Lib.hid f9
        have hsep2 : ∀ b, 0 ≤ b → b < w.heap.size → ¬ OfV (.slice (some dy) n n) b := fun b _ h3 h4 => by
          have e : dy.block = b := Option.some.inj h4
          omega
        have HSEP := Lib.hid hsep2
        clear f9 est HX2 ox hsep hsep2
        go_region
        go_wp2
        go_roundw
        case rel =>
          have f9 := F9.out
          exact ⟨k + 1, by omega, by go_num, OwnB.fr HOX.out f9 (fun b h1 h2 => HN.out b h1 h2), S9.out, R1.fr f9 HSEP.out, R2.fr f9 HSEP.out, R3.fr f9 HSEP.out,
            Bl.trans B0 (Bl.of_fr f9 B0.size (fun b h4 => by have e : dy.block = b := Option.some.inj h4; omega))⟩
        case measure => simp [intOf]; omega
      · obtain rfl : n = k := by omega
        have hdn : ¬ (n : Int) < n := by omega
        go_upto_region 11 with fail
        have RA := (R1.take n).more (Nat.zero_le _) (show w.heap.size ≤ (max w.heap.size wr.heap.size) by omega)
        have RB := (R2.take n).more (Nat.zero_le _) (show w.heap.size ≤ (max w.heap.size wr.heap.size) by omega)
        have RX := (rd_own ox (xl_len _ _ _ _)).more (Nat.zero_le _) (show wr.heap.size ≤ (max w.heap.size wr.heap.size) by omega)
        have RY := (rd_own oy (xl_len _ _ _ _)).more (Nat.zero_le _) (show wr.heap.size ≤ (max w.heap.size wr.heap.size) by omega)
        have la : (l.take n).length = n := by rw [List.length_take]; omega
        have lb : (l2.take n).length = n := by rw [List.length_take]; omega
        have lx := xl_len l l3 n n
        have ly := xl_len l2 l3 n n
        have ia : IsB (l.take n) := fun x hx => i1 x (List.mem_of_mem_take hx)
        have ib : IsB (l2.take n) := fun x hx => i2 x (List.mem_of_mem_take hx)
        have ix := xl_isb i1 i3 n n
        have iy := xl_isb i2 i3 n n
        have HD := adds i1 i2 i3 h1 h2 h3
        have hca : (n : Int) ≤ cap := by have := HC1.out; omega
        have hcb : (n : Int) ≤ cap2 := by have := HC2.out; omega
        have hsw := B0.size
        generalize hD : bits .xor .u32 (crcS (l.take n)) (crcS (l2.take n)) = D at HD
        have HL1 := Lib.hid h1
        have HL2 := Lib.hid h2
        clear h1 h2 h3 hsc hwo R1 R2 R3 ox oy HC1 HC2 HC3 hne i1 i2 i3 hdn
        refine wp_region_any (by kernel_rfl) ?_
        refine Reg.wpAny_inv (I := fun listed act wq => ∃ (c0 c1 c2 c3 c4 c5 c6 c7 c8 c9 c10 c11 c12 c13 c14 c15 c16 c17 c18 c19 : Bool) (q1 q2 q3 q4 : Value), listed = #[c0, c1, c2, c3, c4, c5, c6, c7, c8, c9, c10, c11, c12, c13, c14, c15, c16, c17, c18, c19] ∧ act = ⟨#[.slice a l.length cap, .slice a2 l2.length cap2, .slice a3 l3.length cap3, undef, undef, undef, (bif c19 then (.bool true) else (.bool false)), .int .i64 n, .slice Ax n n, .slice Ay n n, u10, u11, u12, u13, u14, u15, u16, u17, u18, u19, u20, u21, u22, u23, .int .i64 n, .int .i64 n, .bool false, u27, u28, u29, u30, u31, u32, u33, u34, u35, u36, u37, u38, u39, u40, u41, u42, u43, u44, u45, u46, u47, u48, u49, u50, u51, u52, (bif c0 then (.slice a l.length cap) else u53), (bif c1 then (.int .i64 n) else u54), (bif c2 then (.slice a n cap) else u55), (bif c3 then q1 else u56), (bif c4 then (.int .u32 (crcS (l.take n))) else u57), (bif c5 then (.slice a2 l2.length cap2) else u58), (bif c6 then (.int .i64 n) else u59), (bif c7 then (.slice a2 n cap2) else u60), (bif c8 then q2 else u61), (bif c9 then (.int .u32 (crcS (l2.take n))) else u62), (bif c10 then (.int .u32 D) else u63), (bif c11 then (.slice Ax n n) else u64), (bif c12 then q3 else u65), (bif c13 then (.int .u32 (crcS (xl l l3 n n))) else u66), (bif c14 then (.slice Ay n n) else u67), (bif c15 then q4 else u68), (bif c16 then (.int .u32 (crcS (xl l2 l3 n n))) else u69), (bif c17 then (.int .u32 D) else u70), (bif c18 then (.bool true) else u71)], []⟩ ∧ Below wr.heap.size wr wq ∧ (c3 = true → One wq (max w.heap.size wr.heap.size) q1 (l.take n)) ∧ (c8 = true → One wq (max w.heap.size wr.heap.size) q2 (l2.take n)) ∧ (c12 = true → One wq (max w.heap.size wr.heap.size) q3 (xl l l3 n n)) ∧ (c15 = true → One wq (max w.heap.size wr.heap.size) q4 (xl l2 l3 n n))) ?_ ?_ _ _ _ _ (by decide) ?_
        · intro i o listed act wq hi hI hun hdeps K hK
          obtain ⟨c0, c1, c2, c3, c4, c5, c6, c7, c8, c9, c10, c11, c12, c13, c14, c15, c16, c17, c18, c19, q1, q2, q3, q4, rfl, rfl, BQ, O1, O2, O3, O4⟩ := hI
          have hlt : i < 20 := (Array.getElem?_eq_some_iff.1 hi).1
          rcases (show i = 0 ∨ i = 1 ∨ i = 2 ∨ i = 3 ∨ i = 4 ∨ i = 5 ∨ i = 6 ∨ i = 7 ∨ i = 8 ∨ i = 9 ∨ i = 10 ∨ i = 11 ∨ i = 12 ∨ i = 13 ∨ i = 14 ∨ i = 15 ∨ i = 16 ∨ i = 17 ∨ i = 18 ∨ i = 19 by omega) with rfl | rfl | rfl | rfl | rfl | rfl | rfl | rfl | rfl | rfl | rfl | rfl | rfl | rfl | rfl | rfl | rfl | rfl | rfl | rfl
          · skip
            obtain rfl : _ = o := Option.some.inj hi
            obtain rfl : c0 = false := by simpa using hun
            clear hun hdeps hi
            go_simp
            exact hK _ _ ⟨true, c1, c2, c3, c4, c5, c6, c7, c8, c9, c10, c11, c12, c13, c14, c15, c16, c17, c18, c19, _, _, _, _, rfl, rfl, BQ, O1, O2, O3, O4⟩
          · skip
            obtain rfl : _ = o := Option.some.inj hi
            obtain rfl : c1 = false := by simpa using hun
            clear hun hdeps hi
            go_simp
            exact hK _ _ ⟨c0, true, c2, c3, c4, c5, c6, c7, c8, c9, c10, c11, c12, c13, c14, c15, c16, c17, c18, c19, _, _, _, _, rfl, rfl, BQ, O1, O2, O3, O4⟩
          · skip
            obtain rfl : _ = o := Option.some.inj hi
            obtain rfl : c2 = false := by simpa using hun
            obtain rfl : c0 = true := hdeps _ (Array.mem_of_getElem? (i := 0) rfl) rfl
            obtain rfl : c1 = true := hdeps _ (Array.mem_of_getElem? (i := 1) rfl) rfl
            clear hun hdeps hi
            go_simp
            exact hK _ _ ⟨true, true, true, c3, c4, c5, c6, c7, c8, c9, c10, c11, c12, c13, c14, c15, c16, c17, c18, c19, _, _, _, _, rfl, rfl, BQ, O1, O2, O3, O4⟩
          · skip
            obtain rfl : _ = o := Option.some.inj hi
            obtain rfl : c3 = false := by simpa using hun
            obtain rfl : c2 = true := hdeps _ (Array.mem_of_getElem? (i := 0) rfl) rfl
            clear hun hdeps hi
            go_simp
            exact hK _ _ ⟨c0, c1, true, true, c4, c5, c6, c7, c8, c9, c10, c11, c12, c13, c14, c15, c16, c17, c18, c19, _, _, _, _, rfl, rfl, BQ.alloc BQ.size _, fun _ => one_new (RA.fr (Bl.fr BQ) (fun b _ h1 h2 => by omega)) la, fun h => (O2 h).alloc _, fun h => (O3 h).alloc _, fun h => (O4 h).alloc _⟩
          · skip
            obtain rfl : _ = o := Option.some.inj hi
            obtain rfl : c4 = false := by simpa using hun
            obtain rfl : c3 = true := hdeps _ (Array.mem_of_getElem? (i := 0) rfl) rfl
            clear hun hdeps hi
            have PO := Lib.hid (O1 rfl)
            obtain ⟨A0, eA, PA⟩ := PO.out
            subst eA
            have HC := Lib.hid (one_sum PA ia la (by omega))
            go_simp
            go_at_call 8
            refine HC.out.mono ?_
            rintro e w' ⟨he, rfl⟩
            subst he
            clear HC
            go_simp
            exact hK _ _ ⟨c0, c1, c2, true, true, c5, c6, c7, c8, c9, c10, c11, c12, c13, c14, c15, c16, c17, c18, c19, _, _, _, _, rfl, rfl, BQ, O1, O2, O3, O4⟩
          · skip
            obtain rfl : _ = o := Option.some.inj hi
            obtain rfl : c5 = false := by simpa using hun
            clear hun hdeps hi
            go_simp
            exact hK _ _ ⟨c0, c1, c2, c3, c4, true, c6, c7, c8, c9, c10, c11, c12, c13, c14, c15, c16, c17, c18, c19, _, _, _, _, rfl, rfl, BQ, O1, O2, O3, O4⟩
          · skip
            obtain rfl : _ = o := Option.some.inj hi
            obtain rfl : c6 = false := by simpa using hun
            clear hun hdeps hi
            go_simp
            exact hK _ _ ⟨c0, c1, c2, c3, c4, c5, true, c7, c8, c9, c10, c11, c12, c13, c14, c15, c16, c17, c18, c19, _, _, _, _, rfl, rfl, BQ, O1, O2, O3, O4⟩
          · skip
            obtain rfl : _ = o := Option.some.inj hi
            obtain rfl : c7 = false := by simpa using hun
            obtain rfl : c5 = true := hdeps _ (Array.mem_of_getElem? (i := 0) rfl) rfl
            obtain rfl : c6 = true := hdeps _ (Array.mem_of_getElem? (i := 1) rfl) rfl
            clear hun hdeps hi
            go_simp
            exact hK _ _ ⟨c0, c1, c2, c3, c4, true, true, true, c8, c9, c10, c11, c12, c13, c14, c15, c16, c17, c18, c19, _, _, _, _, rfl, rfl, BQ, O1, O2, O3, O4⟩
          · skip
            obtain rfl : _ = o := Option.some.inj hi
            obtain rfl : c8 = false := by simpa using hun
            obtain rfl : c7 = true := hdeps _ (Array.mem_of_getElem? (i := 0) rfl) rfl
            clear hun hdeps hi
            go_simp
            exact hK _ _ ⟨c0, c1, c2, c3, c4, c5, c6, true, true, c9, c10, c11, c12, c13, c14, c15, c16, c17, c18, c19, _, _, _, _, rfl, rfl, BQ.alloc BQ.size _, fun h => (O1 h).alloc _, fun _ => one_new (RB.fr (Bl.fr BQ) (fun b _ h1 h2 => by omega)) lb, fun h => (O3 h).alloc _, fun h => (O4 h).alloc _⟩
          · skip
            obtain rfl : _ = o := Option.some.inj hi
            obtain rfl : c9 = false := by simpa using hun
            obtain rfl : c8 = true := hdeps _ (Array.mem_of_getElem? (i := 0) rfl) rfl
            obtain rfl : c4 = true := hdeps _ (Array.mem_of_getElem? (i := 1) rfl) rfl
            clear hun hdeps hi
            have PO := Lib.hid (O2 rfl)
            obtain ⟨A0, eA, PA⟩ := PO.out
            subst eA
            have HC := Lib.hid (one_sum PA ib lb (by omega))
            go_simp
            go_at_call 8
            refine HC.out.mono ?_
            rintro e w' ⟨he, rfl⟩
            subst he
            clear HC
            go_simp
            exact hK _ _ ⟨c0, c1, c2, c3, true, c5, c6, c7, true, true, c10, c11, c12, c13, c14, c15, c16, c17, c18, c19, _, _, _, _, rfl, rfl, BQ, O1, O2, O3, O4⟩
          · skip
            obtain rfl : _ = o := Option.some.inj hi
            obtain rfl : c10 = false := by simpa using hun
            obtain rfl : c4 = true := hdeps _ (Array.mem_of_getElem? (i := 0) rfl) rfl
            obtain rfl : c9 = true := hdeps _ (Array.mem_of_getElem? (i := 1) rfl) rfl
            clear hun hdeps hi
            go_simp
            exact hK _ _ ⟨c0, c1, c2, c3, true, c5, c6, c7, c8, true, true, c11, c12, c13, c14, c15, c16, c17, c18, c19, _, _, _, _, rfl, rfl, BQ, O1, O2, O3, O4⟩
          · skip
            obtain rfl : _ = o := Option.some.inj hi
            obtain rfl : c11 = false := by simpa using hun
            clear hun hdeps hi
            go_simp
            exact hK _ _ ⟨c0, c1, c2, c3, c4, c5, c6, c7, c8, c9, c10, true, c12, c13, c14, c15, c16, c17, c18, c19, _, _, _, _, rfl, rfl, BQ, O1, O2, O3, O4⟩
          · skip
            obtain rfl : _ = o := Option.some.inj hi
            obtain rfl : c12 = false := by simpa using hun
            obtain rfl : c11 = true := hdeps _ (Array.mem_of_getElem? (i := 0) rfl) rfl
            clear hun hdeps hi
            go_simp
            exact hK _ _ ⟨c0, c1, c2, c3, c4, c5, c6, c7, c8, c9, c10, true, true, c13, c14, c15, c16, c17, c18, c19, _, _, _, _, rfl, rfl, BQ.alloc BQ.size _, fun h => (O1 h).alloc _, fun h => (O2 h).alloc _, fun _ => one_new (RX.fr (Bl.fr BQ) (fun b _ h1 h2 => by omega)) lx, fun h => (O4 h).alloc _⟩
          · skip
            obtain rfl : _ = o := Option.some.inj hi
            obtain rfl : c13 = false := by simpa using hun
            obtain rfl : c12 = true := hdeps _ (Array.mem_of_getElem? (i := 0) rfl) rfl
            obtain rfl : c9 = true := hdeps _ (Array.mem_of_getElem? (i := 1) rfl) rfl
            clear hun hdeps hi
            have PO := Lib.hid (O3 rfl)
            obtain ⟨A0, eA, PA⟩ := PO.out
            subst eA
            have HC := Lib.hid (one_sum PA ix lx (by omega))
            go_simp
            go_at_call 8
            refine HC.out.mono ?_
            rintro e w' ⟨he, rfl⟩
            subst he
            clear HC
            go_simp
            exact hK _ _ ⟨c0, c1, c2, c3, c4, c5, c6, c7, c8, true, c10, c11, true, true, c14, c15, c16, c17, c18, c19, _, _, _, _, rfl, rfl, BQ, O1, O2, O3, O4⟩
          · skip
            obtain rfl : _ = o := Option.some.inj hi
            obtain rfl : c14 = false := by simpa using hun
            clear hun hdeps hi
            go_simp
            exact hK _ _ ⟨c0, c1, c2, c3, c4, c5, c6, c7, c8, c9, c10, c11, c12, c13, true, c15, c16, c17, c18, c19, _, _, _, _, rfl, rfl, BQ, O1, O2, O3, O4⟩
          · skip
            obtain rfl : _ = o := Option.some.inj hi
            obtain rfl : c15 = false := by simpa using hun
            obtain rfl : c14 = true := hdeps _ (Array.mem_of_getElem? (i := 0) rfl) rfl
            clear hun hdeps hi
            go_simp
            exact hK _ _ ⟨c0, c1, c2, c3, c4, c5, c6, c7, c8, c9, c10, c11, c12, c13, true, true, c16, c17, c18, c19, _, _, _, _, rfl, rfl, BQ.alloc BQ.size _, fun h => (O1 h).alloc _, fun h => (O2 h).alloc _, fun h => (O3 h).alloc _, fun _ => one_new (RY.fr (Bl.fr BQ) (fun b _ h1 h2 => by omega)) ly⟩
          · skip
            obtain rfl : _ = o := Option.some.inj hi
            obtain rfl : c16 = false := by simpa using hun
            obtain rfl : c15 = true := hdeps _ (Array.mem_of_getElem? (i := 0) rfl) rfl
            obtain rfl : c13 = true := hdeps _ (Array.mem_of_getElem? (i := 1) rfl) rfl
            clear hun hdeps hi
            have PO := Lib.hid (O4 rfl)
            obtain ⟨A0, eA, PA⟩ := PO.out
            subst eA
            have HC := Lib.hid (one_sum PA iy ly (by omega))
            go_simp
            go_at_call 8
            refine HC.out.mono ?_
            rintro e w' ⟨he, rfl⟩
            subst he
            clear HC
            go_simp
            exact hK _ _ ⟨c0, c1, c2, c3, c4, c5, c6, c7, c8, c9, c10, c11, c12, true, c14, true, true, c17, c18, c19, _, _, _, _, rfl, rfl, BQ, O1, O2, O3, O4⟩
          · skip
            obtain rfl : _ = o := Option.some.inj hi
            obtain rfl : c17 = false := by simpa using hun
            obtain rfl : c13 = true := hdeps _ (Array.mem_of_getElem? (i := 0) rfl) rfl
            obtain rfl : c16 = true := hdeps _ (Array.mem_of_getElem? (i := 1) rfl) rfl
            clear hun hdeps hi
            go_simp
            exact hK _ _ ⟨c0, c1, c2, c3, c4, c5, c6, c7, c8, c9, c10, c11, c12, true, c14, c15, true, true, c18, c19, _, _, _, _, rfl, rfl, BQ, O1, O2, O3, O4⟩
          · skip
            obtain rfl : _ = o := Option.some.inj hi
            obtain rfl : c18 = false := by simpa using hun
            obtain rfl : c10 = true := hdeps _ (Array.mem_of_getElem? (i := 0) rfl) rfl
            obtain rfl : c17 = true := hdeps _ (Array.mem_of_getElem? (i := 1) rfl) rfl
            clear hun hdeps hi
            go_simp
            exact hK _ _ ⟨c0, c1, c2, c3, c4, c5, c6, c7, c8, c9, true, c11, c12, c13, c14, c15, c16, true, true, c19, _, _, _, _, rfl, rfl, BQ, O1, O2, O3, O4⟩
          · skip
            obtain rfl : _ = o := Option.some.inj hi
            obtain rfl : c19 = false := by simpa using hun
            obtain rfl : c18 = true := hdeps _ (Array.mem_of_getElem? (i := 0) rfl) rfl
            obtain rfl : c0 = true := hdeps _ (Array.mem_of_getElem? (i := 2) rfl) rfl
            obtain rfl : c1 = true := hdeps _ (Array.mem_of_getElem? (i := 3) rfl) rfl
            obtain rfl : c2 = true := hdeps _ (Array.mem_of_getElem? (i := 4) rfl) rfl
            obtain rfl : c3 = true := hdeps _ (Array.mem_of_getElem? (i := 5) rfl) rfl
            obtain rfl : c4 = true := hdeps _ (Array.mem_of_getElem? (i := 6) rfl) rfl
            obtain rfl : c5 = true := hdeps _ (Array.mem_of_getElem? (i := 7) rfl) rfl
            obtain rfl : c6 = true := hdeps _ (Array.mem_of_getElem? (i := 8) rfl) rfl
            obtain rfl : c7 = true := hdeps _ (Array.mem_of_getElem? (i := 9) rfl) rfl
            obtain rfl : c8 = true := hdeps _ (Array.mem_of_getElem? (i := 10) rfl) rfl
            obtain rfl : c9 = true := hdeps _ (Array.mem_of_getElem? (i := 11) rfl) rfl
            obtain rfl : c10 = true := hdeps _ (Array.mem_of_getElem? (i := 12) rfl) rfl
            obtain rfl : c11 = true := hdeps _ (Array.mem_of_getElem? (i := 13) rfl) rfl
            obtain rfl : c12 = true := hdeps _ (Array.mem_of_getElem? (i := 14) rfl) rfl
            obtain rfl : c13 = true := hdeps _ (Array.mem_of_getElem? (i := 15) rfl) rfl
            obtain rfl : c14 = true := hdeps _ (Array.mem_of_getElem? (i := 16) rfl) rfl
            obtain rfl : c15 = true := hdeps _ (Array.mem_of_getElem? (i := 17) rfl) rfl
            obtain rfl : c16 = true := hdeps _ (Array.mem_of_getElem? (i := 18) rfl) rfl
            obtain rfl : c17 = true := hdeps _ (Array.mem_of_getElem? (i := 19) rfl) rfl
            clear hun hdeps hi
            go_simp
            exact hK _ _ ⟨true, true, true, true, true, true, true, true, true, true, true, true, true, true, true, true, true, true, true, true, _, _, _, _, rfl, rfl, BQ, O1, O2, O3, O4⟩
        · intro listed act wq hI hr
          obtain ⟨c0, c1, c2, c3, c4, c5, c6, c7, c8, c9, c10, c11, c12, c13, c14, c15, c16, c17, c18, c19, q1, q2, q3, q4, rfl, rfl, BQ, O1, O2, O3, O4⟩ := hI
          have hall := Reg.all_of_done (by kernel_rfl) rfl hr
          obtain rfl : c0 = true := hall 0 (by decide)
          obtain rfl : c1 = true := hall 1 (by decide)
          obtain rfl : c2 = true := hall 2 (by decide)
          obtain rfl : c3 = true := hall 3 (by decide)
          obtain rfl : c4 = true := hall 4 (by decide)
          obtain rfl : c5 = true := hall 5 (by decide)
          obtain rfl : c6 = true := hall 6 (by decide)
          obtain rfl : c7 = true := hall 7 (by decide)
          obtain rfl : c8 = true := hall 8 (by decide)
          obtain rfl : c9 = true := hall 9 (by decide)
          obtain rfl : c10 = true := hall 10 (by decide)
          obtain rfl : c11 = true := hall 11 (by decide)
          obtain rfl : c12 = true := hall 12 (by decide)
          obtain rfl : c13 = true := hall 13 (by decide)
          obtain rfl : c14 = true := hall 14 (by decide)
          obtain rfl : c15 = true := hall 15 (by decide)
          obtain rfl : c16 = true := hall 16 (by decide)
          obtain rfl : c17 = true := hall 17 (by decide)
          obtain rfl : c18 = true := hall 18 (by decide)
          obtain rfl : c19 = true := hall 19 (by decide)
          clear hall hr
          go_wp2
          go_ret
          exact ⟨rfl, Bl.trans B0 (Bl.low BQ B0.size)⟩
        · exact ⟨false, false, false, false, false, false, false, false, false, false, false, false, false, false, false, false, false, false, false, false, undef, undef, undef, undef, rfl, rfl, (Below.refl _ _).drew, (fun h => by cases h), (fun h => by cases h), (fun h => by cases h), (fun h => by cases h)⟩
end Go.Proofs.Ytdapcjeofgimgaa.CrcAdds
