/- The walk of flumelaw21.IdentPlays: true for both ends and every script. No conditions but the row's own. -/
import Derived.Test.YticlgonbbaodpaaIdentRef
import Derived.Test.YticlgonbbaodpaaIdentAll
import Derived.Deep.DeepCutAuto
namespace Go.Proofs.Yticlgonbbaodpaa.IdentPlays
open Go.RowKit Go.Maps Go.Proofs.Yticlgonbbaodpaa.Mem Go.Proofs.Yticlgonbbaodpaa.Ident Go.Proofs.Yticlgonbbaodpaa.IdentAll
set_option linter.unusedVariables false
set_option linter.unusedSimpArgs false

structure OpW where
  kind : Int
  id : Int
  times : Int
instance : Inhabited OpW := ⟨⟨0, 0, 0⟩⟩
structure OpAt (w : World) (b : Addr) (o : OpW) : Prop where
  c0 : w.cell? b = some (.int .i64 o.kind)
  c1 : w.cell? ⟨b.block, b.off + 1, none⟩ = some (.int .i64 o.id)
  c2 : w.cell? ⟨b.block, b.off + 2, none⟩ = some (.int .i64 o.times)
  n0 : -9223372036854775808 ≤ o.id
  n1 : o.id < 9223372036854775808
theorem OpAt.below {w w' : World} {b : Addr} {o : OpW} (h : OpAt w b o) (hb : Below w.heap.size w w') : OpAt w' b o :=
  have k : ∀ {p : Addr} {v : Value}, w.cell? p = some v → w'.cell? p = some v := fun hc => (hb.cell (World.block_lt_of_cell? w _ hc)).trans hc
  ⟨k h.c0, k h.c1, k h.c2, h.n0, h.n1⟩
def ReadsOps (w : World) (A : Option Addr) (os : List OpW) : Prop :=
  os = [] ∨ ∃ ad, A = some ad ∧ ∀ i (hi : i < os.length), OpAt w (ad.add (i * 3)) os[i]
theorem ReadsOps.at_ {w w' : World} {A : Option Addr} {os : List OpW} (h : ReadsOps w A os) (hb : Below w.heap.size w w') (i : Nat) (hi : i < os.length) :
    ∃ ad, A = some ad ∧ OpAt w' (ad.add (i * 3)) os[i] := by
  rcases h with h | ⟨ad, e, h⟩
  · subst h; simp at hi
  · exact ⟨ad, e, (h i hi).below hb⟩
theorem reads_ops {w : World} {A : Option Addr} {len cap : Nat} (h : Sees Try.prog w 22 [.slice A len cap]) :
    ∃ os : List OpW, len = os.length ∧ ReadsOps w A os ∧ len ≤ cap ∧ cap ≤ maxLen := by
  rcases sees_slice Try.underlying22 h with h | ⟨a, len', cap', h, hl, hm, hx⟩
  · injection h with h _
    injection h with h1 h2 h3
    subst h1; subst h2; subst h3
    exact ⟨[], rfl, .inl rfl, Nat.le_refl _, Nat.zero_le _⟩
  · injection h with h _
    injection h with h1 h2 h3
    subst h1; subst h2; subst h3
    have c3 : Try.prog.cellsOf 31 = 3 := by kernel_rfl
    have c1 : Try.prog.cellsOf 3 = 1 := by kernel_rfl
    have key : ∀ i, i < len → ∃ x : OpW, OpAt w (a.add (i * 3)) x := by
      intro i hi
      obtain ⟨cs, h1, h2, h3⟩ := hx i hi
      obtain ⟨g1, g2⟩ := sees_struct Try.underlying31 h3
      rw [c3] at h1 h2
      match cs, h1 with
      | [v0, v1, v2], _ =>
        have f0 := g2 _ (List.Mem.head _)
        have f1 := g2 _ (List.Mem.tail _ (List.Mem.head _))
        have f2 := g2 _ (List.Mem.tail _ (List.Mem.tail _ (List.Mem.head _)))
        simp only [c1, List.drop, List.take] at f0 f1 f2
        obtain ⟨n0, e0, _⟩ := sees_int Try.underlying3 f0
        obtain ⟨n1, e1, z1⟩ := sees_int Try.underlying3 f1
        obtain ⟨n2, e2, _⟩ := sees_int Try.underlying3 f2
        simp only [List.cons.injEq, and_true] at e0 e1 e2
        subst e0; subst e1; subst e2
        have d0 := h2 0 _ rfl
        have d1 := h2 1 _ rfl
        have d2 := h2 2 _ rfl
        rw [add_zero_] at d0
        rw [add_add_ _ _ _ (by decide)] at d1 d2
        have r1 : -9223372036854775808 ≤ n1 ∧ n1 < 9223372036854775808 := by simp [Lit.wf, IntKind.min, IntKind.max, IntKind.bits, IntKind.signed] at z1; omega
        exact ⟨⟨n0, n1, n2⟩, d0, d1, d2, r1.1, r1.2⟩
    obtain ⟨l, e, hl2⟩ := list_of key
    exact ⟨l, e.symm, .inr ⟨a, rfl, hl2⟩, hl, hm⟩
/-- The pool and the reference's pool, alike. -/
structure Env (w : World) (g b x : Nat) (c : Bool) (wr : World) (L : List Int) : Prop where
  p : Poo wr g b (fst c) L
  r : Rf wr x c L
  bl : Below w.heap.size w wr
theorem mine_at (c : Bool) (j : Nat) (hj : j < 512) : mine (fst c) (fst c + 2 * (j : Int)) = true := by
  cases c <;> simp [mine, fst] <;> omega
theorem mine_nat {c : Bool} {d : Int} (h : mine (fst c) d = true) : 0 ≤ d ∧ d < 1024 := by
  simp only [mine, decide_eq_true_eq] at h; exact ⟨h.1, h.2.1⟩
theorem mine_ex {c : Bool} {n : Nat} (h : mine (fst c) n = true) : ∃ i : Nat, i < 512 ∧ fst c + 2 * (i : Int) = n := by
  simp only [mine, decide_eq_true_eq] at h
  obtain ⟨h1, h2, h3⟩ := h
  have hf : fst c = 0 ∨ fst c = 1 := by cases c <;> simp [fst]
  exact ⟨(((n : Int) - fst c) / 2).toNat, by omega, by omega⟩
theorem same_take {c : Bool} {L : List Int} {j n : Nat} (hj : j < 512) (hall : ∀ i : Nat, i < j → fst c + 2 * (i : Int) ∈ L) (hout : fst c + 2 * (j : Int) ∉ L) (hn : n < 1024) (hmn : mine (fst c) n = true)
    (hleast : ∀ i : Nat, i < n → mine (fst c) i = true → (i : Int) ∈ L) (hnin : (n : Int) ∉ L) : (n : Int) = fst c + 2 * (j : Int) := by
  obtain ⟨i, hi, e⟩ := mine_ex hmn
  rcases Nat.lt_trichotomy i j with h | h | h
  · exact absurd (e ▸ hall i h) hnin
  · rw [← e, h]
  · exfalso
    have hm := mine_at c j hj
    have hr := mine_nat hm
    have e2 : (((fst c + 2 * (j : Int)).toNat : Nat) : Int) = fst c + 2 * (j : Int) := by omega
    have := hleast (fst c + 2 * (j : Int)).toNat (by omega) (by rw [e2]; exact hm)
    rw [e2] at this
    exact hout this
theorem cnt_countP (L : List Int) (hnd : L.Nodup) (hr : ∀ y ∈ L, 0 ≤ y ∧ y < 1024) (k : Nat) : cnt L k = L.countP (fun y => decide (y < (k : Int))) := by
  induction k with
  | zero =>
    symm
    rw [cnt, List.countP_eq_zero]
    intro y hy
    have := hr y hy
    simp; omega
  | succ k ih =>
    have h1 : L.countP (fun y => decide (y < ((k + 1 : Nat) : Int))) = L.countP (fun y => decide (y < (k : Int))) + L.count (k : Int) := by
      clear ih hnd hr
      induction L with
      | nil => rfl
      | cons y L ih =>
        simp only [List.countP_cons, List.count_cons, ih]
        by_cases h3 : y < (k : Int)
        · have h4 : ¬ y = (k : Int) := by omega
          have h5 : y < (k : Int) + 1 := by omega
          simp [h3, h4, h5]; omega
        · by_cases h4 : y = (k : Int)
          · subst h4
            have h5 : (k : Int) < (k : Int) + 1 := by omega
            simp [h5]; omega
          · have h5 : ¬ y < (k : Int) + 1 := by omega
            simp [h3, h4, h5]
    rw [h1, cnt, ih, hnd.count]
theorem w64_lo (z : Int) : -9223372036854775808 ≤ wrap64 z := by unfold wrap64; omega
theorem w64_hi (z : Int) : wrap64 z < 9223372036854775808 := by unfold wrap64; omega
theorem cnt_len (L : List Int) (hnd : L.Nodup) (hr : ∀ y ∈ L, 0 ≤ y ∧ y < 1024) : cnt L 1024 = L.length := by
  rw [cnt_countP L hnd hr, List.countP_eq_length]
  intro y hy
  have := hr y hy
  simp; omega
theorem poo_rng {w : World} {g b : Nat} {f : Int} {L : List Int} (h : Poo w g b f L) : L.Nodup ∧ ∀ y ∈ L, 0 ≤ y ∧ y < 1024 := by obtain ⟨_, ⟨D, _, _, _, h, h2⟩, _⟩ := h; exact ⟨h, h2⟩
structure Ord (w : World) (g b x top : Nat) : Prop where
  o0 : w.heap.size ≤ b
  o1 : b < g
  o2 : g < x
  o3 : x < top

set_option maxHeartbeats 4000000 in
set_option maxRecDepth 100000 in
theorem walk (c : Bool) (a : Option Addr) (cap len : Nat) (w : World) (see : Sees Try.prog w 22 [.slice a len cap]) :
    Calls Try.prog 3 #[.bool c, .slice a len cap] w fun e w' => e = .returned (.bool true) ∧ Below w.heap.size w w' := by
  obtain ⟨os, rfl, hr, hcap, hm⟩ := reads_ops see
  clear see
  go_enter Try.func3, Try.ntmps3
  go_wp2_with fail
  refine (first_calls w).mono ?_
  rintro e w0 ⟨rfl, B0⟩
  go_wp2_with fail
  refine (new_calls c w0).mono ?_
  rintro e w1 ⟨g, b, rfl, P, hb1, hb2, B1⟩
  replace P : Poo w1 g b (fst c) [] := P
  replace B1 := Bl.trans B0 (Bl.low B1 B0.size)
  have hs0 := B0.size
  have hs1 := P.1.lt
  have E : Env w g b w1.heap.size c (w1.alloc (.cells (poolCells c) 29)) [] := ⟨P.fr (S := nothing) ((Fr.refl _ _).alloc _) (fun h => h) (fun h => h), Rf.new w1 c, B1.alloc B1.size _⟩
  have ord : Ord w g b w1.heap.size (w1.alloc (.cells (poolCells c) 29)).heap.size := ⟨by omega, hb2, hs1, by simp⟩
  clear P B0 B1
  go_wp2_with (refine Go.Proofs.Yticlgonbbaodpaa.Ident.wpList_build _ rfl 29 #[(0, .tmp 19)] rfl _ #[(0, .bool c)] (by simp [Act.eval]) (build_pool c w1) ?_)
  generalize w1.alloc (.cells (poolCells c) 29) = w2 at E ord ⊢
  generalize htop : w2.heap.size = top at ord
  generalize w1.heap.size = x at E ord ⊢
  have hsz : top ≤ w2.heap.size := by omega
  clear htop hs1 hs0 hb1 hb2
  obtain ⟨o0, o1, o2, o3⟩ := ord
  go_loopw [24] (fun i wr => ∃ (k : Nat) (L : List Int), k ≤ os.length ∧ i = .int .i64 k ∧ Env w g b x c wr L ∧ top ≤ wr.heap.size) (fun i _ => os.length - (intOf i).toNat)
  case atStart => exact ⟨0, [], Nat.zero_le _, rfl, E, hsz⟩
  case round =>
    clear E hsz
    obtain ⟨k, L, hk, rfl, E, hsz⟩ := hrel
    by_cases hlt : k < os.length
    · obtain ⟨ad, rfl, ho⟩ := hr.at_ E.bl k hlt
      generalize os[k] = o at ho
      obtain ⟨ki, id0, ti⟩ := o
      obtain ⟨a0, a1, a2, n0, n1⟩ := ho
      simp only at a0 a1 a2 n0 n1
      have bA := Blk.new wr #[.int .i64 ki, .int .i64 id0, .int .i64 ti] 31
      have EA : Env w g b x c (wr.alloc (.cells #[.int .i64 ki, .int .i64 id0, .int .i64 ti] 31)) L := ⟨E.p.fr (S := nothing) ((Fr.refl _ _).alloc _) (fun h => h) (fun h => h), E.r.fr (S := nothing) ((Fr.refl _ _).alloc _) (fun h => h), E.bl.alloc E.bl.size _⟩
      by_cases h40 : 40 ≤ k
      · have h40' : (40 : Int) ≤ k := by omega
        go_wp2
        go_ret
        exact ⟨rfl, EA.bl⟩
      · have h40' : ¬ (40 : Int) ≤ k := by omega
        have hsA : top ≤ (wr.alloc (.cells #[.int .i64 ki, .int .i64 id0, .int .i64 ti] 31)).heap.size := by simp; omega
        have hwr : top ≤ wr.heap.size := hsz
        have HN := um_range ti 600 (by omega) (by omega)
        unfold um at HN
        have z2 := bA.cell 2
        simp at z2
        clear E hsz
        go_wp2_with fail
        clear a0 a1 a2 z2
        generalize wr.alloc (.cells #[.int .i64 ki, .int .i64 id0, .int .i64 ti] 31) = wA at bA EA hsA ⊢
        generalize wrap64 ((IntKind.u64.wrap ti).tmod 600) = u at HN ⊢
        obtain ⟨N, hN⟩ : ∃ N : Nat, 1 + u = N := ⟨(1 + u).toNat, by omega⟩
        have hN1 : N ≤ 600 := by omega
        try rw [hN]
        clear hN HN
        generalize hob : wr.heap.size = ob at bA hwr ⊢
        go_loopw [37] (fun i wi => ∃ (t : Nat) (L : List Int), t ≤ N ∧ i = .int .i64 t ∧ Env w g b x c wi L ∧ Blk wi ob 31 #[.int .i64 ki, .int .i64 id0, .int .i64 ti] ∧ top ≤ wi.heap.size) (fun i _ => N - (intOf i).toNat)
        case atStart => exact ⟨0, L, Nat.zero_le _, rfl, EA, bA, hsA⟩
        case round =>
          clear EA bA hsA
          obtain ⟨t, L, ht, rfl, E, bA, hsA⟩ := hrel
          by_cases htl : t < N
          · have htl' : (t : Int) < N := by omega
            have ht600 : (t : Int) < 600 := by omega
            have z0 := bA.cell 0
            have z1 := bA.cell 1
            have z2 := bA.cell 2
            simp at z0 z1 z2
            go_upto_region 12 with fail
            go_cut [47] (fun v wc => ∃ q : Bool, v = .bool q ∧ wc = wr)
            case first =>
              rcases h1 : decide (-1073741824 < id0) with _ | _
              · go_wp2
                go_meet
                case rel => exact ⟨_, rfl, rfl⟩
              · go_wp2
                go_meet
                case rel => exact ⟨_, rfl, rfl⟩
            case rest =>
              obtain ⟨q, rfl, rfl⟩ := hcut
              go_upto_if 47 with fail
              go_cut [10] (fun v wc2 => ∃ d : Int, v = .int .i64 d ∧ -9223372036854775808 ≤ d ∧ d < 9223372036854775808 ∧ wc2 = wc)
              case first =>
                rcases q with _ | _
                · go_wp2
                  go_meet
                  case rel => exact ⟨id0, rfl, n0, n1, rfl⟩
                · go_wp2
                  go_meet
                  case rel => exact ⟨_, rfl, w64_lo _, w64_hi _, rfl⟩
              case rest =>
                obtain ⟨d, rfl, hd0, hd1, rfl⟩ := hcut
                go_upto_region 14 with fail
                clear n0 n1 z0 z1 z2
                have z0 := bA.cell 0
                have z1 := bA.cell 1
                have z2 := bA.cell 2
                simp at z0 z1 z2
                go_upto_block 4 with fail
                clear z0 z1 z2
                go_cut [] (fun wc => ∃ L : List Int, Env w g b x c wc L ∧ Blk wc ob 31 #[.int .i64 ki, .int .i64 id0, .int .i64 ti] ∧ top ≤ wc.heap.size)
                case first =>
                  obtain ⟨P, R, B⟩ := E
                  rcases Bool.eq_false_or_eq_true ((IntKind.u64.wrap ki).tmod 3 == 0) with h0 | h0
                  · go_wp2_with fail
                    refine (take_calls g b (fst c) L _ P).mono ?_
                    rintro e wa ⟨hT, f1⟩
                    have R1 := R.fr f1 (fun h => by have e : x = b := h; omega)
                    have b1 := bA.fr f1 (fun h => by have e : ob = b := h; omega)
                    have B1 := Bl.trans B (Bl.of_fr f1 B.size (fun k hk => by have e : k = b := hk; omega))
                    have s1 := Nat.le_trans hsA f1.size
                    clear R bA B hsA f1
                    rcases hT with ⟨j, hj, hall, hout, rfl, Pa⟩ | ⟨hall, rfl, Pa⟩
                    · have hm := mine_at c j hj
                      go_wp2_with fail
                      refine (rtake_calls x c L _ R1).mono ?_
                      rintro e wb ⟨hT, f2⟩
                      have b2 := b1.fr f2 (fun h => by have e : ob = x := h; omega)
                      have B2 := Bl.trans B1 (Bl.of_fr f2 B1.size (fun k hk => by have e : k = x := hk; omega))
                      have Pb := Pa.fr f2 (fun h => by have e : g = x := h; omega) (fun h => by have e : b = x := h; omega)
                      have s2 := Nat.le_trans s1 f2.size
                      rcases hT with ⟨n, hn, hmn, hleast, hnin, rfl, Rb⟩ | ⟨hno, _⟩
                      · have e5 : (n : Int) = fst c + 2 * (j : Int) := same_take hj hall hout hn hmn hleast hnin
                        rw [e5] at Rb ⊢
                        have hge : ¬ fst c + 2 * (j : Int) < 0 := by rw [← e5]; omega
                        have hge2 : (0 : Int) ≤ fst c + 2 * (j : Int) := by omega
                        clear hall hout hleast hnin hmn hm e5
                        generalize fst c + 2 * (j : Int) = id at Pb Rb hge hge2 ⊢
                        go_wp2
                        go_meet
                        case rel => exact ⟨_, ⟨Pb, Rb, B2⟩, b2, s2⟩
                      · exfalso
                        have hid := mine_nat hm
                        have := hno (fst c + 2 * (j : Int)).toNat (by omega) (by rw [show (((fst c + 2 * (j : Int)).toNat : Nat) : Int) = fst c + 2 * (j : Int) by omega]; exact hm)
                        rw [show (((fst c + 2 * (j : Int)).toNat : Nat) : Int) = fst c + 2 * (j : Int) by omega] at this
                        exact hout this
                    · go_wp2_with fail
                      refine (rtake_calls x c L _ R1).mono ?_
                      rintro e wb ⟨hT, f2⟩
                      have b2 := b1.fr f2 (fun h => by have e : ob = x := h; omega)
                      have B2 := Bl.trans B1 (Bl.of_fr f2 B1.size (fun k hk => by have e : k = x := hk; omega))
                      have Pb := Pa.fr f2 (fun h => by have e : g = x := h; omega) (fun h => by have e : b = x := h; omega)
                      have s2 := Nat.le_trans s1 f2.size
                      rcases hT with ⟨n, hn, hmn, hleast, hnin, _⟩ | ⟨hno, rfl, Rb⟩
                      · exfalso
                        obtain ⟨i, hi, e5⟩ := mine_ex hmn
                        exact hnin (e5 ▸ hall i hi)
                      · clear hall hno
                        go_wp2
                        go_meet
                        case rel => exact ⟨_, ⟨Pb, Rb, B2⟩, b2, s2⟩
                  · rcases Bool.eq_false_or_eq_true ((IntKind.u64.wrap ki).tmod 3 == 1) with h1 | h1
                    · go_wp2_with fail
                      refine (use_calls g b (fst c) L (d) _ P).mono ?_
                      rintro e wa ⟨rfl, Pa, f1⟩
                      have R1 := R.fr f1 (fun h => by have e : x = b := h; omega)
                      have b1 := bA.fr f1 (fun h => by have e : ob = b := h; omega)
                      have B1 := Bl.trans B (Bl.of_fr f1 B.size (fun k hk => by have e : k = b := hk; omega))
                      have s1 := Nat.le_trans hsA f1.size
                      clear R bA B hsA f1
                      go_wp2_with fail
                      refine (ruse_calls x c L (d) _ R1).mono ?_
                      rintro e wb ⟨rfl, Rb, f2⟩
                      have b2 := b1.fr f2 (fun h => by have e : ob = x := h; omega)
                      have B2 := Bl.trans B1 (Bl.of_fr f2 B1.size (fun k hk => by have e : k = x := hk; omega))
                      have Pb := Pa.fr f2 (fun h => by have e : g = x := h; omega) (fun h => by have e : b = x := h; omega)
                      have s2 := Nat.le_trans s1 f2.size
                      go_wp2
                      go_meet
                      case rel => exact ⟨_, ⟨Pb, Rb, B2⟩, b2, s2⟩
                    · --
                      have hrng := poo_rng P
                      by_cases hmem : (d) ∈ L
                      · have hr2 := hrng.2 _ hmem
                        have hn4 : (d).toNat < 1024 := by omega
                        have hdec : decide ((d) ∈ L) = true := by simpa using hmem
                        have g0 : decide ((0 : Int) ≤ (d)) = true := by simp; omega
                        have g1 : decide ((d) < 1024) = true := by simp; omega
                        have hnt : (((d).toNat : Nat) : Int) = (d) := by omega
                        obtain ⟨cu, fu⟩ := R.cu (d).toNat hn4
                        rw [hnt, hdec] at cu
                        have HD := Lib.hid hd0
                        have HD1 := Lib.hid hd1
                        have HRn := Lib.hid hrng
                        have HDE := Lib.hid hdec
                        have HNT := Lib.hid hnt
                        clear hd0 hd1 hmem hrng hdec hnt
                        go_wp2_with fail
                        refine (free_calls g b (fst c) L (d) _ P HD.out HD1.out).mono ?_
                        rintro e wa ⟨he, Pa, f1⟩
                        rw [HDE.out] at he
                        subst he
                        have R1 := R.fr f1 (fun h => by have e : x = b := h; omega)
                        have b1 := bA.fr f1 (fun h => by have e : ob = b := h; omega)
                        have B1 := Bl.trans B (Bl.of_fr f1 B.size (fun k hk => by have e : k = b := hk; omega))
                        have s1 := Nat.le_trans hsA f1.size
                        clear R bA B hsA f1 cu fu
                        obtain ⟨cu, fu⟩ := R1.cu (d).toNat hn4
                        have R2 := R1.set (L' := L.erase (d)) (d).toNat hn4 false (fun k hk => by rw [HRn.out.1.mem_erase_iff]; exact ⟨fun h => h.2, fun h => ⟨by have := HNT.out; omega, h⟩⟩) (by rw [HNT.out]; simp [HRn.out.1.mem_erase_iff])
                        have f2 : Fr (only x) wa (wa.setCell ⟨x, 1 + (d).toNat, none⟩ (.bool false)) := (Fr.refl _ _).set_only _ none _
                        have b2 := b1.fr f2 (fun h => by have e : ob = x := h; omega)
                        have B2 := Bl.trans B1 (Bl.of_fr f2 B1.size (fun k hk => by have e : k = x := hk; omega))
                        have Pb := Pa.fr f2 (fun h => by have e : g = x := h; omega) (fun h => by have e : b = x := h; omega)
                        have s2 := Nat.le_trans s1 f2.size
                        clear f2
                        go_wp2
                        go_meet
                        case rel => exact ⟨_, ⟨Pb, R2, B2⟩, b2, s2⟩
                      · have hdec : decide ((d) ∈ L) = false := by simpa using hmem
                        have HE := Lib.hid (List.erase_of_not_mem hmem)
                        rcases (show (d) < 0 ∨ 1024 ≤ (d) ∨ (0 ≤ (d) ∧ (d) < 1024) by omega) with hr0 | hr0 | ⟨hr0, hr1⟩
                        · have g0 : decide ((0 : Int) ≤ (d)) = false := by simp; omega
                          clear hr0 hrng
                          go_wp2_with fail
                          refine (free_calls g b (fst c) L (d) _ P hd0 hd1).mono ?_
                          rintro e wa ⟨he, Pa, f1⟩
                          rw [hdec] at he
                          rw [HE.out] at Pa
                          subst he
                          have R1 := R.fr f1 (fun h => by have e : x = b := h; omega)
                          have b1 := bA.fr f1 (fun h => by have e : ob = b := h; omega)
                          have B1 := Bl.trans B (Bl.of_fr f1 B.size (fun k hk => by have e : k = b := hk; omega))
                          have s1 := Nat.le_trans hsA f1.size
                          clear R bA B hsA f1
                          go_wp2
                          go_meet
                          case rel => exact ⟨_, ⟨Pa, R1, B1⟩, b1, s1⟩
                        · have g0 : decide ((0 : Int) ≤ (d)) = true := by simp; omega
                          have g1 : decide ((d) < 1024) = false := by simp; omega
                          clear hr0 hrng
                          go_wp2_with fail
                          refine (free_calls g b (fst c) L (d) _ P hd0 hd1).mono ?_
                          rintro e wa ⟨he, Pa, f1⟩
                          rw [hdec] at he
                          rw [HE.out] at Pa
                          subst he
                          have R1 := R.fr f1 (fun h => by have e : x = b := h; omega)
                          have b1 := bA.fr f1 (fun h => by have e : ob = b := h; omega)
                          have B1 := Bl.trans B (Bl.of_fr f1 B.size (fun k hk => by have e : k = b := hk; omega))
                          have s1 := Nat.le_trans hsA f1.size
                          clear R bA B hsA f1
                          go_wp2
                          go_meet
                          case rel => exact ⟨_, ⟨Pa, R1, B1⟩, b1, s1⟩
                        · have hn4 : (d).toNat < 1024 := by omega
                          have g0 : decide ((0 : Int) ≤ (d)) = true := by simp; omega
                          have g1 : decide ((d) < 1024) = true := by simp; omega
                          have hnt : (((d).toNat : Nat) : Int) = (d) := by omega
                          obtain ⟨cu, fu⟩ := R.cu (d).toNat hn4
                          rw [hnt, hdec] at cu
                          have HD := Lib.hid hd0
                          have HD1 := Lib.hid hd1
                          clear hnt hd0 hd1 hmem hrng
                          go_wp2_with fail
                          refine (free_calls g b (fst c) L (d) _ P HD.out HD1.out).mono ?_
                          rintro e wa ⟨he, Pa, f1⟩
                          rw [hdec] at he
                          rw [HE.out] at Pa
                          subst he
                          have R1 := R.fr f1 (fun h => by have e : x = b := h; omega)
                          have b1 := bA.fr f1 (fun h => by have e : ob = b := h; omega)
                          have B1 := Bl.trans B (Bl.of_fr f1 B.size (fun k hk => by have e : k = b := hk; omega))
                          have s1 := Nat.le_trans hsA f1.size
                          clear R bA B hsA f1
                          go_wp2
                          go_meet
                          case rel => exact ⟨_, ⟨Pa, R1, B1⟩, b1, s1⟩
                case rest =>
                  obtain ⟨L, ⟨P, R, B⟩, bA, hsA⟩ := hcut
                  have hrng := poo_rng P
                  rcases (show (d) < 0 ∨ 1024 ≤ (d) ∨ (0 ≤ (d) ∧ (d) < 1024) by omega) with hr0 | hr0 | ⟨hr0, hr1⟩
                  · have hdec : decide ((d) ∈ L) = false := by simp; exact fun h => by have := hrng.2 _ h; omega
                    have g0 : decide ((0 : Int) ≤ (d)) = false := by simp; omega
                    clear hr0 hrng
                    go_wp2_with fail
                    refine (has_calls g b (fst c) L (d) _ P hd0 hd1).mono ?_
                    rintro e wa ⟨he, B2⟩
                    rw [hdec] at he
                    subst he
                    have P1 := P.bl B2
                    have R1 := R.fr (Fr.of_below (S := nothing) B2) (fun h => h)
                    have b1 := bA.fr (Fr.of_below (S := nothing) B2) (fun h => h)
                    have B1 := Bl.trans B (Bl.low B2 B.size)
                    have s1 := Nat.le_trans hsA B2.size
                    clear R bA B hsA P B2
                    go_wp2_with fail
                    refine (mine_calls g b (fst c) L (d) _ P1).mono ?_
                    rintro e wb ⟨rfl, rfl⟩
                    go_wp2_with fail
                    refine (rmine_calls x c L (d) _ R1).mono ?_
                    rintro e wd ⟨rfl, rfl⟩
                    go_wp2
                    go_roundw
                    case rel => exact ⟨t + 1, L, by omega, by go_num, ⟨P1, R1, B1⟩, b1, s1⟩
                    case measure => simp [intOf]; omega
                  · have hdec : decide ((d) ∈ L) = false := by simp; exact fun h => by have := hrng.2 _ h; omega
                    have g0 : decide ((0 : Int) ≤ (d)) = true := by simp; omega
                    have g1 : decide ((d) < 1024) = false := by simp; omega
                    clear hr0 hrng
                    go_wp2_with fail
                    refine (has_calls g b (fst c) L (d) _ P hd0 hd1).mono ?_
                    rintro e wa ⟨he, B2⟩
                    rw [hdec] at he
                    subst he
                    have P1 := P.bl B2
                    have R1 := R.fr (Fr.of_below (S := nothing) B2) (fun h => h)
                    have b1 := bA.fr (Fr.of_below (S := nothing) B2) (fun h => h)
                    have B1 := Bl.trans B (Bl.low B2 B.size)
                    have s1 := Nat.le_trans hsA B2.size
                    clear R bA B hsA P B2
                    go_wp2_with fail
                    refine (mine_calls g b (fst c) L (d) _ P1).mono ?_
                    rintro e wb ⟨rfl, rfl⟩
                    go_wp2_with fail
                    refine (rmine_calls x c L (d) _ R1).mono ?_
                    rintro e wd ⟨rfl, rfl⟩
                    go_wp2
                    go_roundw
                    case rel => exact ⟨t + 1, L, by omega, by go_num, ⟨P1, R1, B1⟩, b1, s1⟩
                    case measure => simp [intOf]; omega
                  · have hn4 : (d).toNat < 1024 := by omega
                    have g0 : decide ((0 : Int) ≤ (d)) = true := by simp; omega
                    have g1 : decide ((d) < 1024) = true := by simp; omega
                    have HNT := Lib.hid (show (((d).toNat : Nat) : Int) = (d) by omega)
                    have HD := Lib.hid hd0
                    have HD1 := Lib.hid hd1
                    clear hd0 hd1 hrng
                    by_cases hmem : (d) ∈ L
                    · have hdec : decide ((d) ∈ L) = true := by simpa using hmem
                      clear hmem
                      go_wp2_with fail
                      refine (has_calls g b (fst c) L (d) _ P HD.out HD1.out).mono ?_
                      rintro e wa ⟨he, B2⟩
                      rw [hdec] at he
                      subst he
                      have P1 := P.bl B2
                      have R1 := R.fr (Fr.of_below (S := nothing) B2) (fun h => h)
                      have b1 := bA.fr (Fr.of_below (S := nothing) B2) (fun h => h)
                      have B1 := Bl.trans B (Bl.low B2 B.size)
                      have s1 := Nat.le_trans hsA B2.size
                      clear R bA B hsA P B2
                      obtain ⟨cu, fu⟩ := R1.cu (d).toNat hn4
                      rw [HNT.out, hdec] at cu
                      go_wp2_with fail
                      refine (mine_calls g b (fst c) L (d) _ P1).mono ?_
                      rintro e wb ⟨rfl, rfl⟩
                      go_wp2_with fail
                      refine (rmine_calls x c L (d) _ R1).mono ?_
                      rintro e wd ⟨rfl, rfl⟩
                      go_wp2
                      go_roundw
                      case rel => exact ⟨t + 1, L, by omega, by go_num, ⟨P1, R1, B1⟩, b1, s1⟩
                      case measure => simp [intOf]; omega
                    · have hdec : decide ((d) ∈ L) = false := by simpa using hmem
                      clear hmem
                      go_wp2_with fail
                      refine (has_calls g b (fst c) L (d) _ P HD.out HD1.out).mono ?_
                      rintro e wa ⟨he, B2⟩
                      rw [hdec] at he
                      subst he
                      have P1 := P.bl B2
                      have R1 := R.fr (Fr.of_below (S := nothing) B2) (fun h => h)
                      have b1 := bA.fr (Fr.of_below (S := nothing) B2) (fun h => h)
                      have B1 := Bl.trans B (Bl.low B2 B.size)
                      have s1 := Nat.le_trans hsA B2.size
                      clear R bA B hsA P B2
                      obtain ⟨cu, fu⟩ := R1.cu (d).toNat hn4
                      rw [HNT.out, hdec] at cu
                      go_wp2_with fail
                      refine (mine_calls g b (fst c) L (d) _ P1).mono ?_
                      rintro e wb ⟨rfl, rfl⟩
                      go_wp2_with fail
                      refine (rmine_calls x c L (d) _ R1).mono ?_
                      rintro e wd ⟨rfl, rfl⟩
                      go_wp2
                      go_roundw
                      case rel => exact ⟨t + 1, L, by omega, by go_num, ⟨P1, R1, B1⟩, b1, s1⟩
                      case measure => simp [intOf]; omega
          · have htl' : ¬ (t : Int) < N := by omega
            obtain ⟨P, R, B⟩ := E
            have hcl := Lib.hid (cnt_len L (poo_rng P).1 (poo_rng P).2)
            go_wp2_with fail
            refine (len_calls g b (fst c) L _ P).mono ?_
            rintro e wa ⟨rfl, rfl⟩
            go_wp2_with fail
            refine (rlen_calls x c L _ R).mono ?_
            rintro e wb ⟨he, rfl⟩
            rw [hcl.out] at he
            subst he
            go_wp2
            go_roundw
            case rel => exact ⟨k + 1, L, by omega, by go_num, ⟨P, R, B⟩, hsA⟩
            case measure => simp [intOf]; omega
    · go_wp2
      go_ret
      exact ⟨rfl, E.bl⟩
end Go.Proofs.Yticlgonbbaodpaa.IdentPlays
