/- The walk of flumelaw21.IdentApart: true for every list of acts. No conditions but the row's own. -/
import Derived.Test.YticlgonbbaodpaaIdentAll
import Derived.Test.YticlgonbbaodpaaInts
import Derived.Deep.RegionHeldLaw
import Derived.Deep.RegionLaw
import Derived.Deep.QuietTactic
import Derived.Lib.AppendZeros
namespace Go.Proofs.Yticlgonbbaodpaa.IdentApart
open Go.RowKit Go.Maps Go.Proofs.Yticlgonbbaodpaa.Mem Go.Proofs.Yticlgonbbaodpaa.Ident Go.Proofs.Yticlgonbbaodpaa.IdentAll
set_option linter.unusedVariables false
set_option linter.unusedSimpArgs false

theorem info_i : (Try.prog.info? 3).map (fun i => (i.zero, i.size, i.bytes)) = some (some (.int .i64 0), 1, 8) := by kernel_rfl
/-- Both pools hold just what is live. -/
structure Env (w : World) (g0 b0 g1 b1 B base : Nat) (lv : List Int) (wr : World) : Prop where
  p0 : ∃ L, Poo wr g0 b0 0 L ∧ ∀ y, y ∈ L ↔ y ∈ lv
  p1 : ∃ L, Poo wr g1 b1 1 L ∧ ∀ y, y ∈ L ↔ y ∈ lv
  nd : lv.Nodup
  bl : Below w.heap.size w wr
  ps : Blk wr B 24 #[.pointer (some ⟨g0, 0, none⟩), .pointer (some ⟨g1, 0, none⟩)]
  base : base ≤ wr.heap.size
theorem poo_nodup {w : World} {g b : Nat} {f : Int} {L : List Int} (h : Poo w g b f L) : L.Nodup ∧ ∀ y ∈ L, 0 ≤ y ∧ y < 1024 := by obtain ⟨_, ⟨D, _, _, _, h, h2⟩, _⟩ := h; exact ⟨h, h2⟩
theorem same_len {L lv : List Int} (h1 : L.Nodup) (h2 : lv.Nodup) (h : ∀ y, y ∈ L ↔ y ∈ lv) : L.length = lv.length :=
  ((List.perm_ext_iff_of_nodup h1 h2).2 h).length_eq
theorem few {L : List Int} {first : Int} (h : ∀ i : Nat, i < 512 → first + 2 * i ∈ L) : 512 ≤ L.length := by
  have h1 : ((List.range 512).map (fun i : Nat => first + 2 * (i : Int))).Nodup := by
    rw [List.nodup_iff_pairwise_ne, List.pairwise_map]
    exact (List.nodup_iff_pairwise_ne.1 List.nodup_range).imp (fun {a b} hne he => hne (by omega))
  have h2 := h1.length_le_of_subset (l₂ := L) (fun x hx => by
    obtain ⟨i, hi, rfl⟩ := List.mem_map.1 hx
    exact h i (List.mem_range.1 hi))
  simpa using h2

theorem Env.drew {w wr : World} {g0 b0 g1 b1 B base : Nat} {lv : List Int} (E : Env w g0 b0 g1 b1 B base lv wr) : Env w g0 b0 g1 b1 B base lv wr.drew := ⟨E.p0, E.p1, E.nd, E.bl.drew, E.ps.drew, E.base⟩
theorem mem_cut {lv : List Int} (h : lv.Nodup) {T : Nat} {y : Int} (hT : T < lv.length) (hy : lv[T] = y) (z : Int) : z ∈ lv.take T ++ lv.drop (T + 1) ↔ z ≠ y ∧ z ∈ lv := by
  have e : lv = lv.take T ++ y :: lv.drop (T + 1) := by
    rw [← hy, ← List.drop_eq_getElem_cons hT, List.take_append_drop]
  have h' := h
  rw [e] at h'
  have h2 := List.nodup_append.1 h'
  have h3 := List.nodup_cons.1 h2.2.1
  have h4 : y ∉ lv.take T := fun hm => h2.2.2 y hm y (by simp) rfl
  constructor
  · intro hz
    refine ⟨?_, ?_⟩
    · rintro rfl
      rcases List.mem_append.1 hz with h | h
      · exact h4 h
      · exact h3.1 h
    · rw [e]
      rcases List.mem_append.1 hz with h | h
      · exact List.mem_append.2 (.inl h)
      · exact List.mem_append.2 (.inr (List.mem_cons_of_mem _ h))
  · rintro ⟨hne, hz⟩
    rw [e] at hz
    rcases List.mem_append.1 hz with h | h
    · exact List.mem_append.2 (.inl h)
    · rcases List.mem_cons.1 h with h | h
      · exact absurd h hne
      · exact List.mem_append.2 (.inr h)
theorem nodup_cut {lv : List Int} (h : lv.Nodup) (T : Nat) : (lv.take T ++ lv.drop (T + 1)).Nodup := by
  rw [← List.eraseIdx_eq_take_drop_succ]
  exact h.sublist (List.eraseIdx_sublist _ _)
theorem step_run {P : Program} {ops : Array Oper} {o : Oper} {a : Act} {w : World} {K : Act → World → Prop} {Q : Exit → Act → World → Prop} {E : Prop}
    (hg : o.guard = none) (s x : Operand) (t tn : TypeId) (hop : o.op = Op.call { callee := Callee.builtin Builtin.append, args := #[s, x], argTypes := #[t, tn] }) (vs vx : Value) (hs : a.eval s = vs) (hx : a.eval x = vx)
    (v' : Value) (w' : World) (hr : (Builtin.append_ #[t, tn] o.type #[vs, vx]).run P w = .ok v' w') (hK : K (a.put o.dst v') w') :
    if Region.wanted o (yielded ops a.tmps) = true then Oper.wp P o a w K Q else E := by
  have hw : Region.wanted o (yielded ops a.tmps) = true := by simp [Region.wanted, hg]
  rw [if_pos hw]
  exact Lib.wp_append_run w s x t tn hop vs vx hs hx v' w' hr hK
/-- How the blocks lie. -/
structure Ord (w : World) (g0 b0 g1 b1 B base : Nat) : Prop where
  o0 : w.heap.size ≤ b0
  o1 : b0 < g0
  o2 : g0 < b1
  o3 : b1 < g1
  o4 : g1 < B
  o5 : B < base
/-- The pools, the row of what is live, and the row of the two pools. -/
structure St (w : World) (g0 b0 g1 b1 B base : Nat) (lv : List Int) (aO : Addr) (cp : Nat) (L0 L1 : List Int) (wq : World) : Prop where
  p0 : Poo wq g0 b0 0 L0
  p1 : Poo wq g1 b1 1 L1
  ps : Blk wq B 24 #[.pointer (some ⟨g0, 0, none⟩), .pointer (some ⟨g1, 0, none⟩)]
  own : OwnI wq base 3 (.slice (some aO) lv.length cp) lv
  bl : Below w.heap.size w wq
theorem St.drew {w wq : World} {g0 b0 g1 b1 B base : Nat} {lv : List Int} {aO : Addr} {cp : Nat} {L0 L1 : List Int} (S : St w g0 b0 g1 b1 B base lv aO cp L0 L1 wq) : St w g0 b0 g1 b1 B base lv aO cp L0 L1 wq.drew := ⟨S.p0, S.p1, S.ps, S.own, S.bl.drew⟩
theorem St.free0 {w wq : World} {g0 b0 g1 b1 B base : Nat} {lv : List Int} {aO : Addr} {cp : Nat} {L0 L1 : List Int} (S : St w g0 b0 g1 b1 B base lv aO cp L0 L1 wq) (o : Ord w g0 b0 g1 b1 B base) (y : Int) (hy : y ∈ L0) :
    Calls Try.prog 12 #[.pointer (some ⟨g0, 0, none⟩), .int .i64 y] wq fun e w' => e = .returned (.bool true) ∧ St w g0 b0 g1 b1 B base lv aO cp (L0.erase y) L1 w' := by
  have hr := (poo_nodup S.p0).2 y hy
  obtain ⟨o0, o1, o2, o3, o4, o5⟩ := o
  refine (free_calls g0 b0 0 L0 y _ S.p0 (by omega) (by omega)).mono ?_
  rintro e w' ⟨rfl, P, f⟩
  exact ⟨by simp [hy], P, S.p1.fr f (fun h => by have e : g1 = b0 := h; omega) (fun h => by have e : b1 = b0 := h; omega), S.ps.fr f (fun h => by have e : B = b0 := h; omega), OwnI.fr S.own f (fun k hk h => by have e : k = b0 := h; have := OwnI.ge S.own k hk; omega), Bl.trans S.bl (Bl.of_fr f S.bl.size (fun k hk => by have e : k = b0 := hk; omega))⟩
theorem St.free1 {w wq : World} {g0 b0 g1 b1 B base : Nat} {lv : List Int} {aO : Addr} {cp : Nat} {L0 L1 : List Int} (S : St w g0 b0 g1 b1 B base lv aO cp L0 L1 wq) (o : Ord w g0 b0 g1 b1 B base) (y : Int) (hy : y ∈ L1) :
    Calls Try.prog 12 #[.pointer (some ⟨g1, 0, none⟩), .int .i64 y] wq fun e w' => e = .returned (.bool true) ∧ St w g0 b0 g1 b1 B base lv aO cp L0 (L1.erase y) w' := by
  have hr := (poo_nodup S.p1).2 y hy
  obtain ⟨o0, o1, o2, o3, o4, o5⟩ := o
  refine (free_calls g1 b1 1 L1 y _ S.p1 (by omega) (by omega)).mono ?_
  rintro e w' ⟨rfl, P, f⟩
  exact ⟨by simp [hy], S.p0.fr f (fun h => by have e : g0 = b1 := h; omega) (fun h => by have e : b0 = b1 := h; omega), P, S.ps.fr f (fun h => by have e : B = b1 := h; omega), OwnI.fr S.own f (fun k hk h => by have e : k = b1 := h; have := OwnI.ge S.own k hk; omega), Bl.trans S.bl (Bl.of_fr f S.bl.size (fun k hk => by have e : k = b1 := hk; omega))⟩
theorem St.cells {w wq : World} {g0 b0 g1 b1 B base : Nat} {lv : List Int} {aO : Addr} {cp : Nat} {L0 L1 : List Int} (S : St w g0 b0 g1 b1 B base lv aO cp L0 L1 wq) {T : Nat} {y : Int} (hT : T < lv.length) (hy : lv[T] = y) :
    wq.cell? ⟨B, 0, none⟩ = some (.pointer (some ⟨g0, 0, none⟩)) ∧ wq.cell? ⟨B, 1, none⟩ = some (.pointer (some ⟨g1, 0, none⟩)) ∧ wq.cell? (aO.add T) = some (.int .i64 y) := by
  have q0 := S.ps.cell 0
  have q1 := S.ps.cell 1
  simp at q0 q1
  obtain ⟨A9, c9, e9, _, _, R9⟩ := RdI.of_own S.own
  injection e9 with e9 _ _
  subst e9
  obtain ⟨a9, e9, ce9⟩ := R9.at_ T hT
  injection e9 with e9
  subst e9
  rw [hy] at ce9
  exact ⟨q0, q1, ce9⟩
theorem cut_runs {w wb : World} {g0 b0 g1 b1 B base : Nat} {lv : List Int} {aO : Addr} {cp : Nat} {L0 L1 : List Int} (S : St w g0 b0 g1 b1 B base lv aO cp L0 L1 wb) (T : Nat) (hT : T < lv.length) (hl : lv.length ≤ 1000) :
    ∃ v1 w1 v2 w2, (Builtin.append_ #[41, 41] 41 #[.slice (some ⟨wb.heap.size, 0, none⟩) 0 0, .slice (some aO) T cp]).run Try.prog (wb.drew.alloc (.cells #[] 3)) = .ok v1 w1 ∧
      (Builtin.append_ #[41, 41] 41 #[v1, .slice (if cp = T + 1 then some aO else some (aO.add (T + 1))) (lv.length - (T + 1)) (cp - (T + 1))]).run Try.prog w1 = .ok v2 w2 ∧
      OwnI w2 wb.heap.size 3 v2 (lv.take T ++ lv.drop (T + 1)) ∧ Below wb.heap.size wb w2 := by
  obtain ⟨i0, hi0, hz0, hz1, hz2⟩ := info_parts info_i
  obtain ⟨A9, c9, e9, hc9, _, R⟩ := RdI.of_own S.own
  injection e9 with e9 _ ec
  subst e9; subst ec
  have own0 : (wb.drew.alloc (.cells #[] 3)).ownsRow wb.heap.size 3 1 (.slice (some ⟨wb.heap.size, 0, none⟩) 0 0) ([] : List Int).length (ints []) :=
    ⟨rfl, .inr ⟨wb.heap.size, 0, #[], rfl, Nat.le_refl _, heap_alloc_new wb.drew _, Nat.le_refl _, Nat.zero_le _, rfl, rfl⟩⟩
  have Ra := R.fr (S := nothing) ((Fr.refl _ wb).drew.alloc (.cells #[] 3)) (fun _ _ _ h => h)
  have e1 : (lv.take T).length = T := by rw [List.length_take]; omega
  have e2 : (lv.drop (T + 1)).length = lv.length - (T + 1) := List.length_drop
  obtain ⟨v1, w1, h1, h2, h3, h4⟩ := run_append_i (P := Try.prog) (wb.drew.alloc (.cells #[] 3)) wb.heap.size 41 41 3 i0 Try.underlying41 hi0 hz0 hz1 hz2 _ [] own0 _ _ (some aO) cp (lv.take T) (Ra.take T) (by simp; omega) (by simp)
  rw [e1] at h1
  have f1 : Fr nothing wb w1 := by
    have f0 : Fr nothing wb (wb.drew.alloc (.cells #[] 3)) := (Fr.refl _ wb).drew.alloc _
    exact f0.grown h3 (fun k hk => .inr (by have hk' : some wb.heap.size = some k := hk; injection hk' with hk'; omega))
  have Rb := (R.fr f1 (fun _ _ _ h => h)).drop (n := T + 1) (by omega) hc9
  rw [List.nil_append] at h2
  obtain ⟨v2, w2, k1, k2, k3, k4⟩ := run_append_i (P := Try.prog) w1 wb.heap.size 41 41 3 i0 Try.underlying41 hi0 hz0 hz1 hz2 v1 (lv.take T) h2 _ _ _ (cp - (T + 1)) (lv.drop (T + 1)) Rb (by rw [e1, e2]; omega) f1.size
  rw [e2] at k1
  refine ⟨v1, w1, v2, w2, h1, ?_, k2, ?_⟩
  · exact k1
  · refine Fr.below (S := nothing) (f1.grown k3 (fun k hk => .inr ?_)) (fun _ _ h => h)
    exact OwnI.ge (w := w1) (e := 3) (xs := lv.take T) h2 k hk
set_option maxHeartbeats 4000000 in
set_option maxRecDepth 100000 in
theorem walk (a : Option Addr) (cap : Nat) (l : List Int) (w : World) (hr : ReadsI w .i64 a l) (hc : l.length ≤ cap) (hm : cap ≤ maxLen) (hy : l.length * 8 ≤ 140737488351232)
    (hw : ∀ x ∈ l, (Lit.int .i64 x).wf = true) (hnil : a = none → cap = 0) :
    Calls Try.prog 4 #[.slice a l.length cap] w fun e w' => e = .returned (.bool true) ∧ Below w.heap.size w w' := by
  clear hw hnil
  obtain ⟨i0, hi0, hz0, hz1, hz2⟩ := info_parts info_i
  go_enter Try.func4, Try.ntmps4
  go_wp2_with fail
  refine (first_calls w).mono ?_
  rintro e w0 ⟨rfl, B0⟩
  go_wp2_with fail
  refine (new_calls true w0).mono ?_
  rintro e w1 ⟨g0, b0, rfl, P0, hb1, hb2, B1⟩
  replace P0 : Poo w1 g0 b0 0 [] := P0
  replace B1 := Bl.trans B0 (Bl.low B1 B0.size)
  have hs0 := B0.size
  have hs1 := P0.1.lt
  go_wp2_with fail
  refine (new_calls false w1).mono ?_
  rintro e w2 ⟨g1, b1, rfl, P1, hb3, hb4, B2⟩
  replace P1 : Poo w2 g1 b1 1 [] := P1
  have P0' := P0.bl B2
  replace B2 := Bl.trans B1 (Bl.low B2 B1.size)
  have hs2 := P1.1.lt
  clear P0 B0 B1
  have E : Env w g0 b0 g1 b1 w2.heap.size (w2.heap.size + 1) [] (w2.alloc (.cells #[.pointer (some ⟨g0, 0, none⟩), .pointer (some ⟨g1, 0, none⟩)] 24)) :=
    ⟨⟨[], P0'.fr (S := nothing) ((Fr.refl _ _).alloc _) (fun h => h) (fun h => h), fun _ => Iff.rfl⟩, ⟨[], P1.fr (S := nothing) ((Fr.refl _ _).alloc _) (fun h => h) (fun h => h), fun _ => Iff.rfl⟩, List.nodup_nil, B2.alloc B2.size _, Blk.new w2 _ _, by simp⟩
  have ord : Ord w g0 b0 g1 b1 w2.heap.size (w2.heap.size + 1) := ⟨by omega, hb2, by omega, hb4, hs2, Nat.lt_succ_self _⟩
  clear P0' P1 B2
  go_wp2_with fail
  go_loopw [4, 20] (fun x i wr => ∃ (k : Nat) (lv : List Int), k ≤ l.length ∧ k ≤ 200 ∧ lv.length ≤ k ∧ i = .int .i64 k ∧ Env w g0 b0 g1 b1 w2.heap.size (w2.heap.size + 1) lv wr ∧ OwnI wr (w2.heap.size + 1) 3 x lv) (fun _ i _ => l.length - (intOf i).toNat)
  case atStart => exact ⟨0, [], Nat.zero_le _, Nat.zero_le _, Nat.zero_le _, rfl, E, OwnI.nil _ _ _⟩
  case round =>
    clear E
    obtain ⟨k, lv, hk, hk2, hlv, rfl, E, O⟩ := hrel
    obtain ⟨A, cp, rfl, hcp, hcn⟩ := OwnI.slice O
    have q0 := E.ps.cell 0
    have q1 := E.ps.cell 1
    simp at q0 q1
    by_cases hlt : k < l.length
    · obtain ⟨ad, rfl, hcell⟩ := (hr.below E.bl).at_ k hlt
      generalize l[k] = x at hcell
      by_cases h200 : 200 ≤ k
      · have h200' : (200 : Int) ≤ k := by omega
        obtain ⟨L0, P0, m0⟩ := E.p0
        obtain ⟨L1, P1, m1⟩ := E.p1
        have n0 := same_len (poo_nodup P0).1 E.nd m0
        have n1 := same_len (poo_nodup P1).1 E.nd m1
        clear m0 m1
        go_wp2_with fail
        refine (len_calls g0 b0 0 L0 _ P0).mono ?_
        rintro e we ⟨he, rfl⟩
        rw [n0] at he
        subst he
        clear n0
        go_wp2_with fail
        refine (len_calls g1 b1 1 L1 _ P1).mono ?_
        rintro e wf ⟨he, rfl⟩
        rw [n1] at he
        subst he
        clear n1
        go_wp2
        go_ret
        exact ⟨rfl, E.bl⟩
      · have h200' : ¬ (200 : Int) ≤ k := by omega
        have HR := um_range x 2 (by omega) (by omega)
        unfold um at HR
        go_upto_region 10 with fail
        generalize wrap64 ((IntKind.u64.wrap x).tmod 2) = r at HR ⊢
        have hlen0 : (0 : Int) ≤ lv.length := by omega
        have hwl : IntKind.u64.wrap (lv.length : Int) = lv.length := by simp only [IntKind.wrap, IntKind.bits, IntKind.signed]; simp; omega
        by_cases hA : ((IntKind.u64.wrap ((IntKind.u64.wrap x).tdiv 2)).tmod 3 == 2) = true ∧ 0 < lv.length
        · obtain ⟨hq, hpos⟩ := hA
          have hpos' : (0 : Int) < lv.length := by omega
          have hne : ¬ (lv.length : Int) = 0 := by omega
          clear HR
          go_wp2_with fail
          have HT := um_range ((IntKind.u64.wrap x).tdiv 6) lv.length hpos' (by omega)
          unfold um at HT
          generalize wrap64 ((IntKind.u64.wrap ((IntKind.u64.wrap x).tdiv 6)).tmod ↑lv.length) = t at HT ⊢
          obtain ⟨T, rfl⟩ : ∃ T : Nat, t = T := ⟨t.toNat, by omega⟩
          have hT : T < lv.length := by omega
          have hT' : (T : Int) < lv.length := by omega
          have hT0 : (0 : Int) ≤ T := by omega
          clear HT hlen0 hwl hq hpos' hne hcell
          obtain ⟨y, hyv⟩ : ∃ y, lv[T] = y := ⟨_, rfl⟩
          have hymem : y ∈ lv := hyv ▸ List.getElem_mem hT
          obtain ⟨A', cp', e1, -, -, RO⟩ := RdI.of_own O
          injection e1 with e1 el e2
          subst e1; subst e2
          obtain ⟨aO, rfl, -⟩ := RO.at_ T hT
          obtain ⟨L0, P0, m0⟩ := E.p0
          obtain ⟨L1, P1, m1⟩ := E.p1
          have S0 : St w g0 b0 g1 b1 w2.heap.size (w2.heap.size + 1) lv aO cp L0 L1 wr := ⟨P0, P1, E.ps, O, E.bl⟩
          have S1 := S0.drew
          have hc0 := S1.cells hT hyv
          have hy0 := (m0 y).2 hymem
          have hy1 := (m1 y).2 hymem
          have M0 := Lib.hid m0
          have M1 := Lib.hid m1
          have HY := Lib.hid hyv
          have hnd := E.nd
          clear el RO q0 q1 m0 m1 hyv P0 P1 S0 E O
          go_region_held_law (fun wq => wq.cell? ⟨w2.heap.size, 0, none⟩ = some (.pointer (some ⟨g0, 0, none⟩)) ∧ wq.cell? ⟨w2.heap.size, 1, none⟩ = some (.pointer (some ⟨g1, 0, none⟩)) ∧ wq.cell? (aO.add T) = some (.int .i64 y))
            (first | exact hc0 | exact hc1 | exact hc2) (first
            | (go_at_call 12; refine (St.free1 S2 ord y hy1).mono ?_; rintro e wb ⟨rfl, S3⟩; have hc2 := S3.cells hT HY.out)
            | (go_at_call 12; refine (St.free0 S1 ord y hy0).mono ?_; rintro e wa ⟨rfl, S2⟩; have hc1 := S2.cells hT HY.out))
          all_goals first
            | (rename_i hK hH; refine hK _ _ ?_; clear hK hH; go_wp2_with fail)
          have hTc : (T : Int) ≤ cp := by omega
          have hwT : IntKind.i64.wrap ((T : Int) + 1) = (T : Int) + 1 := by rw [IntKind.wrap_i64]; omega
          have hT1 : (T : Int) + 1 ≤ lv.length := by omega
          have hTp : (0 : Int) ≤ (T : Int) + 1 := by omega
          have hTc1 : (T : Int) + 1 ≤ cp := by omega
          have hTT : (T : Int) ≤ (T : Int) + 1 := by omega
          obtain ⟨v1, wx, v2, wy, r1, r2, O2, B2⟩ := cut_runs S3 T hT (by omega)
          have R1 := Lib.hid r1
          have R2 := Lib.hid r2
          clear r1 r2
          have hbs : w2.heap.size + 1 ≤ wb.heap.size := by have := OwnI.ge S3.own aO.block rfl; have := OwnI.lt S3.own aO.block rfl; omega
          by_cases hct : cp = T + 1
          · --
            go_region_law (first
              | (refine step_run rfl (.tmp 69) (.tmp 72) _ _ rfl (.slice (some ⟨wb.heap.size, 0, none⟩) 0 0) (.slice (some aO) T cp) (by simp [Act.eval, Act.put]) (by simp [Act.eval, Act.put, hct]) _ _ R1.out ?_)
              | (refine step_run rfl (.tmp 73) (.tmp 77) _ _ rfl _ (.slice (if cp = T + 1 then some aO else some (aO.add (T + 1))) (lv.length - (T + 1)) (cp - (T + 1))) (by simp [Act.eval, Act.put]) (by simp [Act.eval, Act.put, hct, Addr.add]) _ _ R2.out ?_))
            all_goals
              go_wp2
              go_roundw
              case rel =>
                refine ⟨k + 1, lv.take T ++ lv.drop (T + 1), by omega, by omega, by rw [List.length_append, List.length_take, List.length_drop]; omega, by go_num, ⟨⟨_, S3.p0.bl B2, fun z => ?_⟩, ⟨_, S3.p1.bl B2, fun z => ?_⟩, nodup_cut hnd T, Bl.trans S3.bl (Bl.low B2 S3.bl.size), S3.ps.fr (Fr.of_below (S := nothing) B2) (fun h => h), Nat.le_trans hbs B2.size⟩, ?_⟩
                · rw [mem_cut hnd hT HY.out, (poo_nodup S1.p0).1.mem_erase_iff, M0.out]
                · rw [mem_cut hnd hT HY.out, (poo_nodup S1.p1).1.mem_erase_iff, M1.out]
                · obtain ⟨h1, h2⟩ := O2
                  rcases h2 with h2 | ⟨gg, cap', cur, e1, hb, rest⟩
                  · exact ⟨h1, .inl h2⟩
                  · exact ⟨h1, .inr ⟨gg, cap', cur, e1, Nat.le_trans hbs hb, rest⟩⟩
              case measure => simp [intOf]; omega
          · --
            go_region_law (first
              | (refine step_run rfl (.tmp 69) (.tmp 72) _ _ rfl (.slice (some ⟨wb.heap.size, 0, none⟩) 0 0) (.slice (some aO) T cp) (by simp [Act.eval, Act.put]) (by simp [Act.eval, Act.put, hct]) _ _ R1.out ?_)
              | (refine step_run rfl (.tmp 73) (.tmp 77) _ _ rfl _ (.slice (if cp = T + 1 then some aO else some (aO.add (T + 1))) (lv.length - (T + 1)) (cp - (T + 1))) (by simp [Act.eval, Act.put]) (by simp [Act.eval, Act.put, hct, Addr.add]) _ _ R2.out ?_))
            all_goals
              go_wp2
              go_roundw
              case rel =>
                refine ⟨k + 1, lv.take T ++ lv.drop (T + 1), by omega, by omega, by rw [List.length_append, List.length_take, List.length_drop]; omega, by go_num, ⟨⟨_, S3.p0.bl B2, fun z => ?_⟩, ⟨_, S3.p1.bl B2, fun z => ?_⟩, nodup_cut hnd T, Bl.trans S3.bl (Bl.low B2 S3.bl.size), S3.ps.fr (Fr.of_below (S := nothing) B2) (fun h => h), Nat.le_trans hbs B2.size⟩, ?_⟩
                · rw [mem_cut hnd hT HY.out, (poo_nodup S1.p0).1.mem_erase_iff, M0.out]
                · rw [mem_cut hnd hT HY.out, (poo_nodup S1.p1).1.mem_erase_iff, M1.out]
                · obtain ⟨h1, h2⟩ := O2
                  rcases h2 with h2 | ⟨gg, cap', cur, e1, hb, rest⟩
                  · exact ⟨h1, .inl h2⟩
                  · exact ⟨h1, .inr ⟨gg, cap', cur, e1, Nat.le_trans hbs hb, rest⟩⟩
              case measure => simp [intOf]; omega
        · have hq : ((IntKind.u64.wrap ((IntKind.u64.wrap x).tdiv 2)).tmod 3 == 2) = false ∨ (((IntKind.u64.wrap ((IntKind.u64.wrap x).tdiv 2)).tmod 3 == 2) = true ∧ ¬ (0 : Int) < lv.length) := by
            rcases h : ((IntKind.u64.wrap ((IntKind.u64.wrap x).tdiv 2)).tmod 3 == 2) with _ | _
            · exact .inl rfl
            · exact .inr ⟨rfl, fun h2 => hA ⟨h, by omega⟩⟩
          clear hA hcell
          obtain ⟨L0, P0, m0⟩ := E.p0
          obtain ⟨L1, P1, m1⟩ := E.p1
          have n0 := same_len (poo_nodup P0).1 E.nd m0
          have n1 := same_len (poo_nodup P1).1 E.nd m1
          have hnd := E.nd
          have hps := E.ps
          have hbl := E.bl
          have hba := E.base
          obtain ⟨o0, o1, o2, o3, o4, o5⟩ := ord
          rcases (show r = 0 ∨ r = 1 by omega) with rfl | rfl
          · rcases hq with hq | ⟨hq, hnp⟩
            · --
              go_wp2_with fail
              refine (take_calls g0 b0 0 L0 wr P0).mono ?_
              rintro e wa ⟨⟨j, hj, hall, hout, rfl, Pa⟩ | ⟨hall, _⟩, f⟩
              rotate_left
              · have := few hall; omega
              have hid : 0 ≤ (0 : Int) + 2 * (j : Int) ∧ (0 : Int) + 2 * (j : Int) < 1024 ∧ ((0 : Int) + 2 * (j : Int)) % 2 = 0 := by omega
              clear hall
              generalize (0 : Int) + 2 * (j : Int) = id at Pa hout hid ⊢
              obtain ⟨id0, id1, id2⟩ := hid
              have idlv : id ∉ lv := fun h => hout ((m0 id).2 h)
              have idO : id ∉ L1 := fun h => idlv ((m1 id).1 h)
              have hmO : mine 1 id = false := by simp [mine]; omega
              have Po := P1.fr f (fun h => by have e : g1 = b0 := h; omega) (fun h => by have e : b1 = b0 := h; omega)
              have psa := hps.fr f (fun h => by have e : w2.heap.size = b0 := h; omega)
              have Oa := OwnI.fr O f (fun k hk h => by have e : k = b0 := h; have := OwnI.ge O k hk; omega)
              have Ba := Bl.trans hbl (Bl.of_fr f hbl.size (fun k hk => by have e : k = b0 := hk; omega))
              have hsa := f.size
              have a0 := psa.cell 0
              have a1 := psa.cell 1
              simp at a0 a1
              have HM0 := Lib.hid m0
              have HM1 := Lib.hid m1
              have HO := Lib.hid idO
              have HLV := Lib.hid idlv
              have hu := Lib.hid (show useOf 1 L1 id = 0 by simp [useOf, id0, id1, hmO, idO])
              have hu2 := Lib.hid (show useL 1 L1 id = id :: L1 by simp [useL, id0, id1, hmO, idO])
              clear m0 m1 n0 n1 q0 q1 hps hbl P0 P1 E O hout idO idlv hmO f
              go_wp2_with fail
              refine (use_calls g1 b1 1 L1 id wa Po).mono ?_
              rintro e wb ⟨he, Pb, f⟩
              rw [hu.out] at he
              rw [hu2.out] at Pb
              subst he
              have Pc := Pa.fr f (fun h => by have e : g0 = b1 := h; omega) (fun h => by have e : b0 = b1 := h; omega)
              have psb := psa.fr f (fun h => by have e : w2.heap.size = b1 := h; omega)
              have Ob := OwnI.fr Oa f (fun k hk h => by have e : k = b1 := h; have := OwnI.ge Oa k hk; omega)
              have Bb := Bl.trans Ba (Bl.of_fr f Ba.size (fun k hk => by have e : k = b1 := hk; omega))
              have hsb := Nat.le_trans hsa f.size
              clear Pa psa Oa Ba a0 a1 Po f hu hu2 hsa
              go_wp2_with fail
              go_loopw [107] (fun i wi => ∃ j2 : Nat, j2 ≤ lv.length ∧ i = .int .i64 j2 ∧ wi = wb) (fun i _ => lv.length - (intOf i).toNat)
              case atStart => exact ⟨0, Nat.zero_le _, rfl, rfl⟩
              case round =>
                obtain ⟨j2, hj2, rfl, rfl⟩ := hrel
                by_cases hjl : j2 < lv.length
                · obtain ⟨A9, c9, e9, _, _, R9⟩ := RdI.of_own Ob
                  injection e9 with e9 el ec
                  subst e9; subst ec
                  obtain ⟨a9, rfl, ce9⟩ := R9.at_ j2 hjl
                  have hne : (lv[j2] == id) = false := by
                    simp only [beq_eq_false_iff_ne]
                    exact fun h => HLV.out (h ▸ List.getElem_mem hjl)
                  clear el R9 Ob Pb Pc
                  generalize lv[j2] = y at ce9 hne
                  go_wp2
                  go_roundw
                  case rel => exact ⟨j2 + 1, by omega, by go_num, by first | rfl | trivial⟩
                  case measure => simp [intOf]; omega
                · have hlit : RdI (wr.alloc (.cells #[.int .i64 id] 3)) 0 (wr.heap.size + 1) (some ⟨wr.heap.size, 0, none⟩) [id] := by
                    refine .inr ⟨_, rfl, Nat.zero_le _, Nat.lt_succ_self _, fun i hi => ?_⟩
                    obtain rfl : i = 0 := by simp at hi; omega
                    exact cell_of_row _ wr.heap.size 0 #[.int .i64 id] 3 (0, 0) (heap_alloc_new wr _)
                  have Oc := OwnI.fr Ob (S := nothing) ((Fr.refl _ wr).alloc (.cells #[.int .i64 id] 3)) (fun _ _ h => h)
                  go_wp2_with (at_builtin; refine wpList_append_i _ rfl (.tmp 115) (.tmp 117) _ rfl (w2.heap.size + 1) 3 i0 Try.underlying41 hi0 hz0 hz1 hz2 _ lv rfl Oc 0 (wr.heap.size + 1) _ _ 1 [id] rfl rfl hlit (by simp; omega) (by simp; omega) ?_; intro v' w' hown hg hat; have f1 : Fr (fun k => (Value.slice A lv.length cp).ownBlock = some k) wr w' := ((Fr.refl _ wr).alloc _).grown hg (fun k hk => .inl hk); clear hg hat)
                  have hno : ∀ k, k < w2.heap.size + 1 → ¬ (Value.slice A lv.length cp).ownBlock = some k := fun k hk h => by have := OwnI.ge Ob k h; omega
                  have hno2 : ∀ k, (Value.slice A lv.length cp).ownBlock = some k → w.heap.size ≤ k := fun k h => by have := OwnI.ge Ob k h; omega
                  have Pd := Pc.fr f1 (hno _ (by omega)) (hno _ (by omega))
                  have Pe := Pb.fr f1 (hno _ (by omega)) (hno _ (by omega))
                  go_roundw
                  case rel =>
                    refine ⟨k + 1, lv ++ [id], by omega, by omega, by rw [List.length_append]; simp; omega, by go_num, ⟨⟨_, Pd, fun z => ?_⟩, ⟨_, Pe, fun z => ?_⟩, ?_, Bl.trans Bb (Bl.of_fr f1 Bb.size hno2), psb.fr f1 (hno _ (by omega)), by have := f1.size; omega⟩, hown⟩
                    · rw [List.mem_cons, List.mem_append, List.mem_singleton, HM0.out, or_comm]
                    · rw [List.mem_cons, List.mem_append, List.mem_singleton, HM1.out, or_comm]
                    · rw [List.nodup_append]
                      exact ⟨hnd, by simp, fun a ha b hb => by simp at hb; subst hb; exact fun h => HLV.out (h ▸ ha)⟩
                  case measure => simp [intOf]; omega
            · --
              go_wp2_with fail
              refine (take_calls g0 b0 0 L0 wr P0).mono ?_
              rintro e wa ⟨⟨j, hj, hall, hout, rfl, Pa⟩ | ⟨hall, _⟩, f⟩
              rotate_left
              · have := few hall; omega
              have hid : 0 ≤ (0 : Int) + 2 * (j : Int) ∧ (0 : Int) + 2 * (j : Int) < 1024 ∧ ((0 : Int) + 2 * (j : Int)) % 2 = 0 := by omega
              clear hall
              generalize (0 : Int) + 2 * (j : Int) = id at Pa hout hid ⊢
              obtain ⟨id0, id1, id2⟩ := hid
              have idlv : id ∉ lv := fun h => hout ((m0 id).2 h)
              have idO : id ∉ L1 := fun h => idlv ((m1 id).1 h)
              have hmO : mine 1 id = false := by simp [mine]; omega
              have Po := P1.fr f (fun h => by have e : g1 = b0 := h; omega) (fun h => by have e : b1 = b0 := h; omega)
              have psa := hps.fr f (fun h => by have e : w2.heap.size = b0 := h; omega)
              have Oa := OwnI.fr O f (fun k hk h => by have e : k = b0 := h; have := OwnI.ge O k hk; omega)
              have Ba := Bl.trans hbl (Bl.of_fr f hbl.size (fun k hk => by have e : k = b0 := hk; omega))
              have hsa := f.size
              have a0 := psa.cell 0
              have a1 := psa.cell 1
              simp at a0 a1
              have HM0 := Lib.hid m0
              have HM1 := Lib.hid m1
              have HO := Lib.hid idO
              have HLV := Lib.hid idlv
              have hu := Lib.hid (show useOf 1 L1 id = 0 by simp [useOf, id0, id1, hmO, idO])
              have hu2 := Lib.hid (show useL 1 L1 id = id :: L1 by simp [useL, id0, id1, hmO, idO])
              clear m0 m1 n0 n1 q0 q1 hps hbl P0 P1 E O hout idO idlv hmO f
              go_wp2_with fail
              refine (use_calls g1 b1 1 L1 id wa Po).mono ?_
              rintro e wb ⟨he, Pb, f⟩
              rw [hu.out] at he
              rw [hu2.out] at Pb
              subst he
              have Pc := Pa.fr f (fun h => by have e : g0 = b1 := h; omega) (fun h => by have e : b0 = b1 := h; omega)
              have psb := psa.fr f (fun h => by have e : w2.heap.size = b1 := h; omega)
              have Ob := OwnI.fr Oa f (fun k hk h => by have e : k = b1 := h; have := OwnI.ge Oa k hk; omega)
              have Bb := Bl.trans Ba (Bl.of_fr f Ba.size (fun k hk => by have e : k = b1 := hk; omega))
              have hsb := Nat.le_trans hsa f.size
              clear Pa psa Oa Ba a0 a1 Po f hu hu2 hsa
              go_wp2_with fail
              go_loopw [107] (fun i wi => ∃ j2 : Nat, j2 ≤ lv.length ∧ i = .int .i64 j2 ∧ wi = wb) (fun i _ => lv.length - (intOf i).toNat)
              case atStart => exact ⟨0, Nat.zero_le _, rfl, rfl⟩
              case round =>
                obtain ⟨j2, hj2, rfl, rfl⟩ := hrel
                by_cases hjl : j2 < lv.length
                · obtain ⟨A9, c9, e9, _, _, R9⟩ := RdI.of_own Ob
                  injection e9 with e9 el ec
                  subst e9; subst ec
                  obtain ⟨a9, rfl, ce9⟩ := R9.at_ j2 hjl
                  have hne : (lv[j2] == id) = false := by
                    simp only [beq_eq_false_iff_ne]
                    exact fun h => HLV.out (h ▸ List.getElem_mem hjl)
                  clear el R9 Ob Pb Pc
                  generalize lv[j2] = y at ce9 hne
                  go_wp2
                  go_roundw
                  case rel => exact ⟨j2 + 1, by omega, by go_num, by first | rfl | trivial⟩
                  case measure => simp [intOf]; omega
                · have hlit : RdI (wr.alloc (.cells #[.int .i64 id] 3)) 0 (wr.heap.size + 1) (some ⟨wr.heap.size, 0, none⟩) [id] := by
                    refine .inr ⟨_, rfl, Nat.zero_le _, Nat.lt_succ_self _, fun i hi => ?_⟩
                    obtain rfl : i = 0 := by simp at hi; omega
                    exact cell_of_row _ wr.heap.size 0 #[.int .i64 id] 3 (0, 0) (heap_alloc_new wr _)
                  have Oc := OwnI.fr Ob (S := nothing) ((Fr.refl _ wr).alloc (.cells #[.int .i64 id] 3)) (fun _ _ h => h)
                  go_wp2_with (at_builtin; refine wpList_append_i _ rfl (.tmp 115) (.tmp 117) _ rfl (w2.heap.size + 1) 3 i0 Try.underlying41 hi0 hz0 hz1 hz2 _ lv rfl Oc 0 (wr.heap.size + 1) _ _ 1 [id] rfl rfl hlit (by simp; omega) (by simp; omega) ?_; intro v' w' hown hg hat; have f1 : Fr (fun k => (Value.slice A lv.length cp).ownBlock = some k) wr w' := ((Fr.refl _ wr).alloc _).grown hg (fun k hk => .inl hk); clear hg hat)
                  have hno : ∀ k, k < w2.heap.size + 1 → ¬ (Value.slice A lv.length cp).ownBlock = some k := fun k hk h => by have := OwnI.ge Ob k h; omega
                  have hno2 : ∀ k, (Value.slice A lv.length cp).ownBlock = some k → w.heap.size ≤ k := fun k h => by have := OwnI.ge Ob k h; omega
                  have Pd := Pc.fr f1 (hno _ (by omega)) (hno _ (by omega))
                  have Pe := Pb.fr f1 (hno _ (by omega)) (hno _ (by omega))
                  go_roundw
                  case rel =>
                    refine ⟨k + 1, lv ++ [id], by omega, by omega, by rw [List.length_append]; simp; omega, by go_num, ⟨⟨_, Pd, fun z => ?_⟩, ⟨_, Pe, fun z => ?_⟩, ?_, Bl.trans Bb (Bl.of_fr f1 Bb.size hno2), psb.fr f1 (hno _ (by omega)), by have := f1.size; omega⟩, hown⟩
                    · rw [List.mem_cons, List.mem_append, List.mem_singleton, HM0.out, or_comm]
                    · rw [List.mem_cons, List.mem_append, List.mem_singleton, HM1.out, or_comm]
                    · rw [List.nodup_append]
                      exact ⟨hnd, by simp, fun a ha b hb => by simp at hb; subst hb; exact fun h => HLV.out (h ▸ ha)⟩
                  case measure => simp [intOf]; omega
          · rcases hq with hq | ⟨hq, hnp⟩
            · --
              go_wp2_with fail
              refine (take_calls g1 b1 1 L1 wr P1).mono ?_
              rintro e wa ⟨⟨j, hj, hall, hout, rfl, Pa⟩ | ⟨hall, _⟩, f⟩
              rotate_left
              · have := few hall; omega
              have hid : 0 ≤ (1 : Int) + 2 * (j : Int) ∧ (1 : Int) + 2 * (j : Int) < 1024 ∧ ((1 : Int) + 2 * (j : Int)) % 2 = 1 := by omega
              clear hall
              generalize (1 : Int) + 2 * (j : Int) = id at Pa hout hid ⊢
              obtain ⟨id0, id1, id2⟩ := hid
              have idlv : id ∉ lv := fun h => hout ((m1 id).2 h)
              have idO : id ∉ L0 := fun h => idlv ((m0 id).1 h)
              have hmO : mine 0 id = false := by simp [mine]; omega
              have Po := P0.fr f (fun h => by have e : g0 = b1 := h; omega) (fun h => by have e : b0 = b1 := h; omega)
              have psa := hps.fr f (fun h => by have e : w2.heap.size = b1 := h; omega)
              have Oa := OwnI.fr O f (fun k hk h => by have e : k = b1 := h; have := OwnI.ge O k hk; omega)
              have Ba := Bl.trans hbl (Bl.of_fr f hbl.size (fun k hk => by have e : k = b1 := hk; omega))
              have hsa := f.size
              have a0 := psa.cell 0
              have a1 := psa.cell 1
              simp at a0 a1
              have HM0 := Lib.hid m0
              have HM1 := Lib.hid m1
              have HO := Lib.hid idO
              have HLV := Lib.hid idlv
              have hu := Lib.hid (show useOf 0 L0 id = 0 by simp [useOf, id0, id1, hmO, idO])
              have hu2 := Lib.hid (show useL 0 L0 id = id :: L0 by simp [useL, id0, id1, hmO, idO])
              clear m0 m1 n0 n1 q0 q1 hps hbl P0 P1 E O hout idO idlv hmO f
              go_wp2_with fail
              refine (use_calls g0 b0 0 L0 id wa Po).mono ?_
              rintro e wb ⟨he, Pb, f⟩
              rw [hu.out] at he
              rw [hu2.out] at Pb
              subst he
              have Pc := Pa.fr f (fun h => by have e : g1 = b0 := h; omega) (fun h => by have e : b1 = b0 := h; omega)
              have psb := psa.fr f (fun h => by have e : w2.heap.size = b0 := h; omega)
              have Ob := OwnI.fr Oa f (fun k hk h => by have e : k = b0 := h; have := OwnI.ge Oa k hk; omega)
              have Bb := Bl.trans Ba (Bl.of_fr f Ba.size (fun k hk => by have e : k = b0 := hk; omega))
              have hsb := Nat.le_trans hsa f.size
              clear Pa psa Oa Ba a0 a1 Po f hu hu2 hsa
              go_wp2_with fail
              go_loopw [107] (fun i wi => ∃ j2 : Nat, j2 ≤ lv.length ∧ i = .int .i64 j2 ∧ wi = wb) (fun i _ => lv.length - (intOf i).toNat)
              case atStart => exact ⟨0, Nat.zero_le _, rfl, rfl⟩
              case round =>
                obtain ⟨j2, hj2, rfl, rfl⟩ := hrel
                by_cases hjl : j2 < lv.length
                · obtain ⟨A9, c9, e9, _, _, R9⟩ := RdI.of_own Ob
                  injection e9 with e9 el ec
                  subst e9; subst ec
                  obtain ⟨a9, rfl, ce9⟩ := R9.at_ j2 hjl
                  have hne : (lv[j2] == id) = false := by
                    simp only [beq_eq_false_iff_ne]
                    exact fun h => HLV.out (h ▸ List.getElem_mem hjl)
                  clear el R9 Ob Pb Pc
                  generalize lv[j2] = y at ce9 hne
                  go_wp2
                  go_roundw
                  case rel => exact ⟨j2 + 1, by omega, by go_num, by first | rfl | trivial⟩
                  case measure => simp [intOf]; omega
                · have hlit : RdI (wr.alloc (.cells #[.int .i64 id] 3)) 0 (wr.heap.size + 1) (some ⟨wr.heap.size, 0, none⟩) [id] := by
                    refine .inr ⟨_, rfl, Nat.zero_le _, Nat.lt_succ_self _, fun i hi => ?_⟩
                    obtain rfl : i = 0 := by simp at hi; omega
                    exact cell_of_row _ wr.heap.size 0 #[.int .i64 id] 3 (0, 0) (heap_alloc_new wr _)
                  have Oc := OwnI.fr Ob (S := nothing) ((Fr.refl _ wr).alloc (.cells #[.int .i64 id] 3)) (fun _ _ h => h)
                  go_wp2_with (at_builtin; refine wpList_append_i _ rfl (.tmp 115) (.tmp 117) _ rfl (w2.heap.size + 1) 3 i0 Try.underlying41 hi0 hz0 hz1 hz2 _ lv rfl Oc 0 (wr.heap.size + 1) _ _ 1 [id] rfl rfl hlit (by simp; omega) (by simp; omega) ?_; intro v' w' hown hg hat; have f1 : Fr (fun k => (Value.slice A lv.length cp).ownBlock = some k) wr w' := ((Fr.refl _ wr).alloc _).grown hg (fun k hk => .inl hk); clear hg hat)
                  have hno : ∀ k, k < w2.heap.size + 1 → ¬ (Value.slice A lv.length cp).ownBlock = some k := fun k hk h => by have := OwnI.ge Ob k h; omega
                  have hno2 : ∀ k, (Value.slice A lv.length cp).ownBlock = some k → w.heap.size ≤ k := fun k h => by have := OwnI.ge Ob k h; omega
                  have Pd := Pc.fr f1 (hno _ (by omega)) (hno _ (by omega))
                  have Pe := Pb.fr f1 (hno _ (by omega)) (hno _ (by omega))
                  go_roundw
                  case rel =>
                    refine ⟨k + 1, lv ++ [id], by omega, by omega, by rw [List.length_append]; simp; omega, by go_num, ⟨⟨_, Pe, fun z => ?_⟩, ⟨_, Pd, fun z => ?_⟩, ?_, Bl.trans Bb (Bl.of_fr f1 Bb.size hno2), psb.fr f1 (hno _ (by omega)), by have := f1.size; omega⟩, hown⟩
                    · rw [List.mem_cons, List.mem_append, List.mem_singleton, HM0.out, or_comm]
                    · rw [List.mem_cons, List.mem_append, List.mem_singleton, HM1.out, or_comm]
                    · rw [List.nodup_append]
                      exact ⟨hnd, by simp, fun a ha b hb => by simp at hb; subst hb; exact fun h => HLV.out (h ▸ ha)⟩
                  case measure => simp [intOf]; omega
            · --
              go_wp2_with fail
              refine (take_calls g1 b1 1 L1 wr P1).mono ?_
              rintro e wa ⟨⟨j, hj, hall, hout, rfl, Pa⟩ | ⟨hall, _⟩, f⟩
              rotate_left
              · have := few hall; omega
              have hid : 0 ≤ (1 : Int) + 2 * (j : Int) ∧ (1 : Int) + 2 * (j : Int) < 1024 ∧ ((1 : Int) + 2 * (j : Int)) % 2 = 1 := by omega
              clear hall
              generalize (1 : Int) + 2 * (j : Int) = id at Pa hout hid ⊢
              obtain ⟨id0, id1, id2⟩ := hid
              have idlv : id ∉ lv := fun h => hout ((m1 id).2 h)
              have idO : id ∉ L0 := fun h => idlv ((m0 id).1 h)
              have hmO : mine 0 id = false := by simp [mine]; omega
              have Po := P0.fr f (fun h => by have e : g0 = b1 := h; omega) (fun h => by have e : b0 = b1 := h; omega)
              have psa := hps.fr f (fun h => by have e : w2.heap.size = b1 := h; omega)
              have Oa := OwnI.fr O f (fun k hk h => by have e : k = b1 := h; have := OwnI.ge O k hk; omega)
              have Ba := Bl.trans hbl (Bl.of_fr f hbl.size (fun k hk => by have e : k = b1 := hk; omega))
              have hsa := f.size
              have a0 := psa.cell 0
              have a1 := psa.cell 1
              simp at a0 a1
              have HM0 := Lib.hid m0
              have HM1 := Lib.hid m1
              have HO := Lib.hid idO
              have HLV := Lib.hid idlv
              have hu := Lib.hid (show useOf 0 L0 id = 0 by simp [useOf, id0, id1, hmO, idO])
              have hu2 := Lib.hid (show useL 0 L0 id = id :: L0 by simp [useL, id0, id1, hmO, idO])
              clear m0 m1 n0 n1 q0 q1 hps hbl P0 P1 E O hout idO idlv hmO f
              go_wp2_with fail
              refine (use_calls g0 b0 0 L0 id wa Po).mono ?_
              rintro e wb ⟨he, Pb, f⟩
              rw [hu.out] at he
              rw [hu2.out] at Pb
              subst he
              have Pc := Pa.fr f (fun h => by have e : g1 = b0 := h; omega) (fun h => by have e : b1 = b0 := h; omega)
              have psb := psa.fr f (fun h => by have e : w2.heap.size = b0 := h; omega)
              have Ob := OwnI.fr Oa f (fun k hk h => by have e : k = b0 := h; have := OwnI.ge Oa k hk; omega)
              have Bb := Bl.trans Ba (Bl.of_fr f Ba.size (fun k hk => by have e : k = b0 := hk; omega))
              have hsb := Nat.le_trans hsa f.size
              clear Pa psa Oa Ba a0 a1 Po f hu hu2 hsa
              go_wp2_with fail
              go_loopw [107] (fun i wi => ∃ j2 : Nat, j2 ≤ lv.length ∧ i = .int .i64 j2 ∧ wi = wb) (fun i _ => lv.length - (intOf i).toNat)
              case atStart => exact ⟨0, Nat.zero_le _, rfl, rfl⟩
              case round =>
                obtain ⟨j2, hj2, rfl, rfl⟩ := hrel
                by_cases hjl : j2 < lv.length
                · obtain ⟨A9, c9, e9, _, _, R9⟩ := RdI.of_own Ob
                  injection e9 with e9 el ec
                  subst e9; subst ec
                  obtain ⟨a9, rfl, ce9⟩ := R9.at_ j2 hjl
                  have hne : (lv[j2] == id) = false := by
                    simp only [beq_eq_false_iff_ne]
                    exact fun h => HLV.out (h ▸ List.getElem_mem hjl)
                  clear el R9 Ob Pb Pc
                  generalize lv[j2] = y at ce9 hne
                  go_wp2
                  go_roundw
                  case rel => exact ⟨j2 + 1, by omega, by go_num, by first | rfl | trivial⟩
                  case measure => simp [intOf]; omega
                · have hlit : RdI (wr.alloc (.cells #[.int .i64 id] 3)) 0 (wr.heap.size + 1) (some ⟨wr.heap.size, 0, none⟩) [id] := by
                    refine .inr ⟨_, rfl, Nat.zero_le _, Nat.lt_succ_self _, fun i hi => ?_⟩
                    obtain rfl : i = 0 := by simp at hi; omega
                    exact cell_of_row _ wr.heap.size 0 #[.int .i64 id] 3 (0, 0) (heap_alloc_new wr _)
                  have Oc := OwnI.fr Ob (S := nothing) ((Fr.refl _ wr).alloc (.cells #[.int .i64 id] 3)) (fun _ _ h => h)
                  go_wp2_with (at_builtin; refine wpList_append_i _ rfl (.tmp 115) (.tmp 117) _ rfl (w2.heap.size + 1) 3 i0 Try.underlying41 hi0 hz0 hz1 hz2 _ lv rfl Oc 0 (wr.heap.size + 1) _ _ 1 [id] rfl rfl hlit (by simp; omega) (by simp; omega) ?_; intro v' w' hown hg hat; have f1 : Fr (fun k => (Value.slice A lv.length cp).ownBlock = some k) wr w' := ((Fr.refl _ wr).alloc _).grown hg (fun k hk => .inl hk); clear hg hat)
                  have hno : ∀ k, k < w2.heap.size + 1 → ¬ (Value.slice A lv.length cp).ownBlock = some k := fun k hk h => by have := OwnI.ge Ob k h; omega
                  have hno2 : ∀ k, (Value.slice A lv.length cp).ownBlock = some k → w.heap.size ≤ k := fun k h => by have := OwnI.ge Ob k h; omega
                  have Pd := Pc.fr f1 (hno _ (by omega)) (hno _ (by omega))
                  have Pe := Pb.fr f1 (hno _ (by omega)) (hno _ (by omega))
                  go_roundw
                  case rel =>
                    refine ⟨k + 1, lv ++ [id], by omega, by omega, by rw [List.length_append]; simp; omega, by go_num, ⟨⟨_, Pe, fun z => ?_⟩, ⟨_, Pd, fun z => ?_⟩, ?_, Bl.trans Bb (Bl.of_fr f1 Bb.size hno2), psb.fr f1 (hno _ (by omega)), by have := f1.size; omega⟩, hown⟩
                    · rw [List.mem_cons, List.mem_append, List.mem_singleton, HM0.out, or_comm]
                    · rw [List.mem_cons, List.mem_append, List.mem_singleton, HM1.out, or_comm]
                    · rw [List.nodup_append]
                      exact ⟨hnd, by simp, fun a ha b hb => by simp at hb; subst hb; exact fun h => HLV.out (h ▸ ha)⟩
                  case measure => simp [intOf]; omega
    · --
      obtain ⟨L0, P0, m0⟩ := E.p0
      obtain ⟨L1, P1, m1⟩ := E.p1
      have n0 := same_len (poo_nodup P0).1 E.nd m0
      have n1 := same_len (poo_nodup P1).1 E.nd m1
      clear m0 m1
      go_wp2_with fail
      refine (len_calls g0 b0 0 L0 _ P0).mono ?_
      rintro e we ⟨he, rfl⟩
      rw [n0] at he
      subst he
      clear n0
      go_wp2_with fail
      refine (len_calls g1 b1 1 L1 _ P1).mono ?_
      rintro e wf ⟨he, rfl⟩
      rw [n1] at he
      subst he
      clear n1
      go_wp2
      go_ret
      exact ⟨rfl, E.bl⟩
end Go.Proofs.Yticlgonbbaodpaa.IdentApart
