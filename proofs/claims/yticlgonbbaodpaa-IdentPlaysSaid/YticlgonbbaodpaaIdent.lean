/- Contracts of package ident. Conditions: each names its blocks and the bounds. -/
import Derived.Test.YticlgonbbaodpaaProg
import Derived.Test.YticlgonbbaodpaaArgs
import Derived.Maps.OwnSet
import Derived.Maps.Own
import Derived.OwnWalk
import Derived.WalkKit
import Derived.WalkSpells
import Derived.KernelRfl
import Derived.RowKit3
import Derived.IntWalk
import Derived.Deep.CutBlock
import Derived.Lib.Hide
namespace Go.Proofs.Yticlgonbbaodpaa.Ident
open Go.RowKit Go.Maps Go.Proofs.Yticlgonbbaodpaa.Mem
set_option linter.unusedVariables false
set_option linter.unusedSimpArgs false

theorem Bl.trans {b : Nat} {w w1 w2 : World} (h : Below b w w1) (k : Below b w1 w2) : Below b w w2 :=
  ⟨k.os.trans h.os, k.tape.trans h.tape, k.output.trans h.output, Nat.le_trans h.size k.size, fun i hi => (k.block i hi).trans (h.block i hi)⟩
theorem Bl.low {b b' : Nat} {w w1 : World} (h : Below b w w1) (hb : b' ≤ b) : Below b' w w1 := ⟨h.os, h.tape, h.output, h.size, fun i hi => h.block i (by omega)⟩
theorem Bl.of_fr {b : Nat} {w w1 : World} {S : Nat → Prop} (f : Fr S w w1) (hb : b ≤ w.heap.size) (hs : ∀ k, S k → b ≤ k) : Below b w w1 :=
  ⟨f.os, f.tape, f.output, f.size, fun i hi => f.block i (by omega) (fun h => by have := hs i h; omega)⟩
theorem law3 : Keyed Try.prog 3 := int_keyed Try.underlying3
theorem zeroU (w : World) : (zeroValue 49).run Try.prog w = .ok (.agg #[]) w := by kernel_rfl
abbrev U := unitElem (H := Unit)
/-- A set of numbers, in block b. -/
def SetM (w : World) (b : Nat) (L : List Int) : Prop :=
  ∃ D : DataW Unit, w.ownsMap Try.prog 3 U b L.length D ∧ (∀ x, Maps.has D (.int .i64 x) = decide (x ∈ L)) ∧ Maps.size D = L.length ∧ L.Nodup ∧ ∀ x ∈ L, 0 ≤ x ∧ x < 1024
/-- A pool: block g, its set in block b. -/
def Poo (w : World) (g b : Nat) (first : Int) (L : List Int) : Prop := Blk w g 48 #[.int .i64 first, .map (some b)] ∧ SetM w b L ∧ (first = 0 ∨ first = 1)
theorem own_fr {S : Nat → Prop} {w w' : World} {b n : Nat} {D : DataW Unit} (h : w.ownsMap Try.prog 3 U b n D) (f : Fr S w w') (hb : ¬ S b) : w'.ownsMap Try.prog 3 U b n D := by
  have hlt := h.lt
  obtain ⟨es, clock, e, r⟩ := h
  exact ⟨es, clock, (f.block b hlt hb).trans e, r⟩
theorem own_tight {w : World} {b n : Nat} {D : DataW Unit} (h : w.ownsMap Try.prog 3 U b n D) : w.ownsMap Try.prog 3 U b (Maps.size D) D := by
  obtain ⟨es, clock, e, F, _, hD⟩ := h
  refine ⟨es, clock, e, F, ?_, hD⟩
  rw [hD]
  simp [Maps.size, length_sorted]
theorem SetM.fr {S : Nat → Prop} {w w' : World} {b : Nat} {L : List Int} (h : SetM w b L) (f : Fr S w w') (hb : ¬ S b) : SetM w' b L := by
  obtain ⟨D, h1, r⟩ := h
  exact ⟨D, own_fr h1 f hb, r⟩
theorem SetM.lt {w : World} {b : Nat} {L : List Int} (h : SetM w b L) : b < w.heap.size := by obtain ⟨D, h1, _⟩ := h; exact h1.lt
theorem SetM.len {w : World} {b : Nat} {L : List Int} (h : SetM w b L) : L.length ≤ 1024 := by
  obtain ⟨D, _, _, _, h4, h5⟩ := h
  have : (L.map Int.toNat).Nodup := by
    rw [List.nodup_iff_pairwise_ne, List.pairwise_map]
    refine (List.nodup_iff_pairwise_ne.1 h4).imp_of_mem ?_
    intro a b ha hb hne he
    have := h5 a ha; have := h5 b hb; omega
  have h2 := this.length_le_of_subset (l₂ := List.range 1024) (fun x hx => by
    obtain ⟨y, hy, rfl⟩ := List.mem_map.1 hx
    have := h5 y hy
    rw [List.mem_range]; omega)
  simpa using h2
theorem Poo.fr {S : Nat → Prop} {w w' : World} {g b : Nat} {first : Int} {L : List Int} (h : Poo w g b first L) (f : Fr S w w') (hg : ¬ S g) (hb : ¬ S b) : Poo w' g b first L := ⟨h.1.fr f hg, h.2.1.fr f hb, h.2.2⟩
theorem Poo.bl {w w' : World} {g b : Nat} {first : Int} {L : List Int} (h : Poo w g b first L) (B : Below w.heap.size w w') : Poo w' g b first L := h.fr (Fr.of_below (S := nothing) B) (fun h => h) (fun h => h)
theorem wf_id {id : Int} (h0 : -9223372036854775808 ≤ id) (h1 : id < 9223372036854775808) : (Lit.int .i64 id).wf = true := by
  simp [Lit.wf, IntKind.min, IntKind.max, IntKind.bits, IntKind.signed]; omega

set_option maxHeartbeats 1000000 in
theorem sethas_calls (b : Nat) (L : List Int) (id : Int) (w : World) (h : SetM w b L) (h0 : -9223372036854775808 ≤ id) (h1 : id < 9223372036854775808) :
    Calls Try.prog 18 #[.map (some b), .int .i64 id] w fun e w' => e = .returned (.bool (decide (id ∈ L))) ∧ Below w.heap.size w w' := by
  obtain ⟨D, hown, hD, _⟩ := h
  have hkey : keyOf Try.prog 3 (.int .i64 id) = some (.int .i64 id) := keyOf_int_mk Try.underlying3 (wf_id h0 h1)
  have HD := Lib.hid (hD id)
  clear hD
  go_enter Try.func18, Try.ntmps18
  go_wp2_with (at_lookup; refine wpList_lookup_own_unit _ rfl _ _ 46 rfl 3 49 law3 Try.underlying46 (zeroU _) b _ D rfl hown _ _ rfl hkey ?_)
  go_ret
  exact ⟨by first | rfl | (rw [HD.out]; rfl), (Below.refl _ _).alloc (Nat.le_refl _) _⟩
set_option maxHeartbeats 1000000 in
theorem has_calls (g b : Nat) (first : Int) (L : List Int) (id : Int) (w : World) (h : Poo w g b first L) (h0 : -9223372036854775808 ≤ id) (h1 : id < 9223372036854775808) :
    Calls Try.prog 13 #[.pointer (some ⟨g, 0, none⟩), .int .i64 id] w fun e w' => e = .returned (.bool (decide (id ∈ L))) ∧ Below w.heap.size w w' := by
  have c1 := h.1.cell 1
  simp at c1
  have hut := Try.underlying48
  go_enter Try.func13, Try.ntmps13
  go_wp2_with fail
  refine (sethas_calls b L id w h.2.1 h0 h1).mono ?_
  rintro e w' ⟨rfl, B⟩
  go_wp2
  go_ret
  exact ⟨rfl, B⟩
/-- Is it one of its own? -/
def mine (first id : Int) : Bool := decide (0 ≤ id ∧ id < 1024 ∧ id % 2 = first)
set_option maxHeartbeats 1000000 in
theorem mine_calls (g b : Nat) (first : Int) (L : List Int) (id : Int) (w : World) (h : Poo w g b first L) :
    Calls Try.prog 14 #[.pointer (some ⟨g, 0, none⟩), .int .i64 id] w fun e w' => e = .returned (.bool (mine first id)) ∧ w' = w := by
  have c0 := h.1.cell 0
  simp at c0
  have hut := Try.underlying48
  rcases (show ¬ 0 ≤ id ∨ 0 ≤ id by omega) with hn | hn
  · rw [show mine first id = false by simp [mine]; omega]
    go_enter Try.func14, Try.ntmps14
    go_wp2
    go_ret
    exact ⟨rfl, rfl⟩
  · rcases (show ¬ id < 1024 ∨ id < 1024 by omega) with hm | hm
    · rw [show mine first id = false by simp [mine]; omega]
      go_enter Try.func14, Try.ntmps14
      go_wp2
      go_ret
      exact ⟨rfl, rfl⟩
    · rw [show mine first id = (id % 2 == first) by by_cases h : id % 2 = first <;> simp [mine, h] <;> omega]
      go_enter Try.func14, Try.ntmps14
      go_wp2
      go_ret
      exact ⟨rfl, rfl⟩

theorem SetM.put {w' : World} {b : Nat} {L : List Int} {x : Int} {D : DataW Unit} (hD : ∀ y, Maps.has D (.int .i64 y) = decide (y ∈ L)) (hs : Maps.size D = L.length) (hnd : L.Nodup) (hr : ∀ y ∈ L, 0 ≤ y ∧ y < 1024) (ht : Tidy D)
    (hx : x ∉ L) (h0 : 0 ≤ x) (h1 : x < 1024) (h : w'.ownsMap Try.prog 3 U b (L.length + 1) (D.put (.int .i64 x) (.agg []))) : SetM w' b (x :: L) := by
  have hk : WideAt.IsKeyLit (Lit.int .i64 x) := by first | trivial | exact ⟨⟩ | simp [WideAt.IsKeyLit]
  refine ⟨_, h, fun y => ?_, ?_, List.nodup_cons.2 ⟨hx, hnd⟩, fun y hy => ?_⟩
  · by_cases e : y = x
    · subst e; rw [has_put_same ht.isMap hk]; simp
    · rw [has_put_other (by simpa using e), hD]; simp [e]
  · rw [size_put ht, hD]; simp [hx, hs]
  · rcases List.mem_cons.1 hy with rfl | hy
    · exact ⟨h0, h1⟩
    · exact hr y hy
theorem SetM.del {w' : World} {b : Nat} {L : List Int} {x : Int} {D : DataW Unit} {n : Nat} (hD : ∀ y, Maps.has D (.int .i64 y) = decide (y ∈ L)) (hs : Maps.size D = L.length) (hnd : L.Nodup) (hr : ∀ y ∈ L, 0 ≤ y ∧ y < 1024) (ht : Tidy D)
    (h : w'.ownsMap Try.prog 3 U b n (D.del (.int .i64 x))) : SetM w' b (L.erase x) := by
  have e1 : Maps.size (D.del (.int .i64 x)) = (L.erase x).length := by
    have := size_del ht (k := .int .i64 x)
    rw [hD, hs] at this
    rw [List.length_erase]
    by_cases hx : x ∈ L
    · have hp := List.length_pos_of_mem hx
      simp [hx] at this ⊢; omega
    · simp [hx] at this ⊢; omega
  refine ⟨_, e1 ▸ own_tight h, fun y => ?_, e1, hnd.erase x, fun y hy => hr y (List.mem_of_mem_erase hy)⟩
  by_cases e : y = x
  · subst e; rw [has_del_same]; simp [hnd.mem_erase_iff]
  · rw [has_del_other (by simpa using e), hD]; simp [hnd.mem_erase_iff, e]
theorem fr_turned {w w' : World} {b : Nat} (h : w.mapTurned w' b) : Fr (only b) w w' := by
  have g := h.grown
  exact ⟨g.os, g.tape, g.output, g.size, fun k hk hn => g.block k hk (fun e => hn (by injection e))⟩
theorem poo_ne {w : World} {g b : Nat} {first : Int} {L : List Int} (h : Poo w g b first L) : g ≠ b := by
  rintro rfl
  have h1 : w.heap[g]? = _ := h.1
  obtain ⟨D, ⟨es, clock, e, _⟩, _⟩ := h.2.1
  rw [h1] at e
  simp at e

def NewP (client : Bool) (w : World) (e : Ending) (w' : World) : Prop :=
  ∃ g b, e = .returned (.pointer (some ⟨g, 0, none⟩)) ∧ Poo w' g b (if client then 0 else 1) [] ∧ w.heap.size ≤ b ∧ b < g ∧ Below w.heap.size w w'
theorem setM_made (w : World) : SetM (w.alloc (.map #[] 0)) w.heap.size [] :=
  ⟨.map [], World.ownsMap_made _ _ _ _, fun x => by simp [Maps.has], rfl, List.nodup_nil, fun x hx => by simp at hx⟩
set_option maxHeartbeats 1000000 in
theorem new_calls (client : Bool) (w : World) : Calls Try.prog 7 #[.bool client] w (NewP client w) := by
  have hmm := @run_makeMap Try.prog
  have hut := Try.underlying48
  have key : ∀ v : Int, v = 0 ∨ v = 1 → Poo ((w.alloc (.map #[] 0)).alloc (.cells #[.int .i64 v, .map (some w.heap.size)] 48)) (w.heap.size + 1) w.heap.size v [] ∧ Below w.heap.size w ((w.alloc (.map #[] 0)).alloc (.cells #[.int .i64 v, .map (some w.heap.size)] 48)) := by
    intro v hv
    have hb := Blk.new (w.alloc (.map #[] 0)) #[.int .i64 v, .map (some w.heap.size)] 48
    rw [show (w.alloc (.map #[] 0)).heap.size = w.heap.size + 1 by simp] at hb
    exact ⟨⟨hb, (setM_made w).fr (S := nothing) ((Fr.refl _ _).alloc _) (fun h => h), hv⟩, ((Below.refl w.heap.size w).alloc (Nat.le_refl _) (.map #[] 0)).alloc (by simp) _⟩
  rcases client with _ | _
  · go_enter Try.func7, Try.ntmps7
    go_wp2
    go_ret
    exact ⟨w.heap.size + 1, w.heap.size, rfl, (key 1 (.inr rfl)).1, Nat.le_refl _, Nat.lt_succ_self _, (key 1 (.inr rfl)).2⟩
  · go_enter Try.func7, Try.ntmps7
    go_wp2
    go_ret
    exact ⟨w.heap.size + 1, w.heap.size, rfl, (key 0 (.inl rfl)).1, Nat.le_refl _, Nat.lt_succ_self _, (key 0 (.inl rfl)).2⟩
def TakeP (w : World) (g b : Nat) (first : Int) (L : List Int) (e : Ending) (w' : World) : Prop :=
  ((∃ j : Nat, j < 512 ∧ (∀ i : Nat, i < j → first + 2 * i ∈ L) ∧ first + 2 * j ∉ L ∧ e = .returned (.tuple #[.int .i64 (first + 2 * j), .int .i64 0]) ∧ Poo w' g b first ((first + 2 * j) :: L)) ∨
    ((∀ i : Nat, i < 512 → first + 2 * i ∈ L) ∧ e = .returned (.tuple #[.int .i64 0, .int .i64 210]) ∧ Poo w' g b first L)) ∧ Fr (only b) w w'
set_option maxHeartbeats 2000000 in
theorem take_calls (g b : Nat) (first : Int) (L : List Int) (w : World) (h : Poo w g b first L) :
    Calls Try.prog 8 #[.pointer (some ⟨g, 0, none⟩)] w (TakeP w g b first L) := by
  have c0 := h.1.cell 0
  simp at c0
  have hut := Try.underlying48
  have hgb := poo_ne h
  have hf : 0 ≤ first ∧ first ≤ 1 := by have := h.2.2; omega
  obtain ⟨hf0, hf1⟩ := hf
  go_enter Try.func8, Try.ntmps8
  go_wp2_with fail
  go_loopw [4] (fun i wr => ∃ j : Nat, j ≤ 512 ∧ i = .int .i64 (first + 2 * j) ∧ (∀ i : Nat, i < j → first + 2 * i ∈ L) ∧ Below w.heap.size w wr) (fun i _ => (1026 - intOf i).toNat)
  case atStart => exact ⟨0, Nat.zero_le _, by simp, fun i hi => by omega, Below.refl _ _⟩
  case round =>
    obtain ⟨j, hj, rfl, hall, B⟩ := hrel
    have P := h.bl B
    have HA := Lib.hid hall
    clear hall c0
    by_cases hlt : j < 512
    · have hlt' : first + 2 * (j : Int) < 1024 := by omega
      go_wp2_with fail
      refine (has_calls g b first L _ wr P (by omega) (by omega)).mono ?_
      rintro e wa ⟨rfl, B2⟩
      have Pa := P.bl B2
      have Ba := Bl.trans B (Bl.low B2 B.size)
      clear P B2
      by_cases hin : first + 2 * (j : Int) ∈ L
      · go_wp2
        go_roundw
        case rel =>
          refine ⟨j + 1, by omega, by simp [wrap64]; omega, fun i hi => ?_, Ba⟩
          rcases Nat.lt_succ_iff_lt_or_eq.1 hi with h | rfl
          · exact HA.out i h
          · exact hin
        case measure => simp [intOf, wrap64]; omega
      · have c1 := Pa.1.cell 1
        simp at c1
        obtain ⟨hb, ⟨D, hown, hD, hs, hnd, hr⟩, hfo⟩ := Pa
        have hkey : keyOf Try.prog 3 (.int .i64 (first + 2 * (j : Int))) = some (.int .i64 (first + 2 * (j : Int))) := keyOf_int_mk Try.underlying3 (wf_id (by omega) (by omega))
        have hlen := SetM.len ⟨D, hown, hD, hs, hnd, hr⟩
        have HD := Lib.hid hD
        have ht := hown.tidy law3
        clear hD
        go_wp2_with (at_mapUpdate; refine wpList_mapUpdate_in _ rfl _ _ _ 46 rfl 3 49 law3 Try.underlying46 U b L.length D rfl hown (by unfold maxLen; omega) _ _ _ rfl rfl hkey _ [] unitElem_mk ?_; intro w1 hown1 hturn1)
        go_ret2
        have f1 := fr_turned hturn1
        refine ⟨.inl ⟨j, hlt, HA.out, hin, rfl, hb.fr f1 hgb, SetM.put HD.out hs hnd hr ht hin (by omega) (by omega) hown1, hfo⟩, (Fr.of_below Ba).trans f1 (fun _ _ h => h)⟩
    · have hlt' : ¬ first + 2 * (j : Int) < 1024 := by omega
      go_wp2
      go_ret2
      exact ⟨.inr ⟨fun i hi => HA.out i (by omega), rfl, P⟩, Fr.of_below B⟩
def useOf (first : Int) (L : List Int) (id : Int) : Int := if 0 ≤ id ∧ id < 1024 ∧ mine first id = false then if id ∈ L then 170 else 0 else 2
def useL (first : Int) (L : List Int) (id : Int) : List Int := if 0 ≤ id ∧ id < 1024 ∧ mine first id = false ∧ id ∉ L then id :: L else L
def UseP (w : World) (g b : Nat) (first : Int) (L : List Int) (id : Int) (e : Ending) (w' : World) : Prop :=
  e = .returned (.int .i64 (useOf first L id)) ∧ Poo w' g b first (useL first L id) ∧ Fr (only b) w w'
set_option maxHeartbeats 2000000 in
theorem use_calls (g b : Nat) (first : Int) (L : List Int) (id : Int) (w : World) (h : Poo w g b first L) :
    Calls Try.prog 10 #[.pointer (some ⟨g, 0, none⟩), .int .i64 id] w (UseP w g b first L id) := by
  have hut := Try.underlying48
  have hgb := poo_ne h
  by_cases hid : 0 ≤ id ∧ id < 1024
  · obtain ⟨h0, h1⟩ := hid
    have h0' : ¬ id < 0 := by omega
    have h1' : ¬ 1024 ≤ id := by omega
    rcases hm : mine first id with _ | _
    · by_cases hin : id ∈ L
      · have e1 : useOf first L id = 170 := by simp [useOf, h0, h1, hm, hin]
        have e2 : useL first L id = L := by simp [useL, hin]
        unfold UseP
        rw [e1, e2]
        clear e1 e2
        go_enter Try.func10, Try.ntmps10
        go_wp2_with fail
        refine (mine_calls g b first L id w h).mono ?_
        rintro e w1 ⟨rfl, rfl⟩
        rw [hm]
        go_wp2_with fail
        refine (has_calls g b first L id _ h (by omega) (by omega)).mono ?_
        rintro e wa ⟨rfl, B2⟩
        go_wp2
        go_ret
        exact ⟨rfl, h.bl B2, Fr.of_below B2⟩
      · have e1 : useOf first L id = 0 := by simp [useOf, h0, h1, hm, hin]
        have e2 : useL first L id = id :: L := by simp [useL, h0, h1, hm, hin]
        unfold UseP
        rw [e1, e2]
        clear e1 e2
        go_enter Try.func10, Try.ntmps10
        go_wp2_with fail
        refine (mine_calls g b first L id w h).mono ?_
        rintro e w1 ⟨rfl, rfl⟩
        rw [hm]
        go_wp2_with fail
        refine (has_calls g b first L id _ h (by omega) (by omega)).mono ?_
        rintro e wa ⟨rfl, B2⟩
        have Pa := h.bl B2
        clear h
        have c1 := Pa.1.cell 1
        simp at c1
        obtain ⟨hb, ⟨D, hown, hD, hs, hnd, hr⟩, hfo⟩ := Pa
        have hkey : keyOf Try.prog 3 (.int .i64 id) = some (.int .i64 id) := keyOf_int_mk Try.underlying3 (wf_id (by omega) (by omega))
        have hlen := SetM.len ⟨D, hown, hD, hs, hnd, hr⟩
        have HD := Lib.hid hD
        have ht := hown.tidy law3
        clear hD
        go_wp2_with (at_mapUpdate; refine wpList_mapUpdate_in _ rfl _ _ _ 46 rfl 3 49 law3 Try.underlying46 U b L.length D rfl hown (by unfold maxLen; omega) _ _ _ rfl rfl hkey _ [] unitElem_mk ?_; intro w1 hown1 hturn1)
        go_ret
        have f1 := fr_turned hturn1
        exact ⟨rfl, ⟨hb.fr f1 hgb, SetM.put HD.out hs hnd hr ht hin h0 h1 hown1, hfo⟩, (Fr.of_below B2).trans f1 (fun _ _ h => h)⟩
    · have e1 : useOf first L id = 2 := by simp [useOf, hm]
      have e2 : useL first L id = L := by simp [useL, hm]
      unfold UseP
      rw [e1, e2]
      clear e1 e2
      go_enter Try.func10, Try.ntmps10
      go_wp2_with fail
      refine (mine_calls g b first L id w h).mono ?_
      rintro e w1 ⟨rfl, rfl⟩
      rw [hm]
      go_wp2
      go_ret
      exact ⟨rfl, h, Fr.refl _ _⟩
  · have e1 : useOf first L id = 2 := by unfold useOf; rw [if_neg (by omega)]
    have e2 : useL first L id = L := by unfold useL; rw [if_neg (by omega)]
    unfold UseP
    rw [e1, e2]
    clear e1 e2
    rcases (show id < 0 ∨ (¬ id < 0 ∧ 1024 ≤ id) by omega) with hid | ⟨hid, hid2⟩
    · go_enter Try.func10, Try.ntmps10
      go_wp2
      go_ret
      exact ⟨rfl, h, Fr.refl _ _⟩
    · go_enter Try.func10, Try.ntmps10
      go_wp2
      go_ret
      exact ⟨rfl, h, Fr.refl _ _⟩
def FreeP (w : World) (g b : Nat) (first : Int) (L : List Int) (id : Int) (e : Ending) (w' : World) : Prop :=
  e = .returned (.bool (decide (id ∈ L))) ∧ Poo w' g b first (L.erase id) ∧ Fr (only b) w w'
set_option maxHeartbeats 2000000 in
theorem free_calls (g b : Nat) (first : Int) (L : List Int) (id : Int) (w : World) (h : Poo w g b first L) (h0 : -9223372036854775808 ≤ id) (h1 : id < 9223372036854775808) :
    Calls Try.prog 12 #[.pointer (some ⟨g, 0, none⟩), .int .i64 id] w (FreeP w g b first L id) := by
  have hut := Try.underlying48
  have hgb := poo_ne h
  unfold FreeP
  generalize hq : decide (id ∈ L) = q
  go_enter Try.func12, Try.ntmps12
  go_wp2_with fail
  refine (has_calls g b first L id _ h h0 h1).mono ?_
  rintro e wa ⟨rfl, B2⟩
  rw [hq]
  have Pa := h.bl B2
  clear h hq
  have c1 := Pa.1.cell 1
  simp at c1
  obtain ⟨hb, ⟨D, hown, hD, hs, hnd, hr⟩, hfo⟩ := Pa
  have hkey : keyOf Try.prog 3 (.int .i64 id) = some (.int .i64 id) := keyOf_int_mk Try.underlying3 (wf_id h0 h1)
  have HD := Lib.hid hD
  have ht := hown.tidy law3
  clear hD
  go_wp2_with (at_delete; refine wpList_delete_own _ rfl _ _ 46 3 rfl 49 law3 Try.underlying46 U b L.length D rfl hown _ _ rfl hkey ?_; intro w1 hown1 hturn1)
  go_ret
  have f1 := fr_turned hturn1
  exact ⟨rfl, ⟨hb.fr f1 hgb, SetM.del HD.out hs hnd hr ht hown1, hfo⟩, (Fr.of_below B2).trans f1 (fun _ _ h => h)⟩
set_option maxHeartbeats 1000000 in
theorem len_calls (g b : Nat) (first : Int) (L : List Int) (w : World) (h : Poo w g b first L) :
    Calls Try.prog 16 #[.pointer (some ⟨g, 0, none⟩)] w fun e w' => e = .returned (.int .i64 L.length) ∧ w' = w := by
  have hut := Try.underlying48
  have c1 := h.1.cell 1
  simp at c1
  obtain ⟨hb, ⟨D, hown, hD, hs, hnd, hr⟩, hfo⟩ := h
  have HS := Lib.hid hs
  clear hD hs hr
  go_enter Try.func16, Try.ntmps16
  go_wp2_with (at_len; refine wpList_len_own _ rfl _ 46 rfl 3 49 Try.underlying46 U b L.length D rfl hown ?_)
  go_ret
  refine ⟨?_, rfl⟩
  rw [← HS.out]
  rfl
def FirstP (w : World) (e : Ending) (w' : World) : Prop := e = .returned (.bool true) ∧ Below w.heap.size w w'
set_option maxHeartbeats 2000000 in
theorem first_calls (w : World) : Calls Try.prog 6 #[] w (FirstP w) := by
  go_enter Try.func6, Try.ntmps6
  go_wp2_with fail
  refine (new_calls true w).mono ?_
  rintro e w1 ⟨g, b, rfl, P, hb1, hb2, B⟩
  replace P : Poo w1 g b 0 [] := P
  have hbb : ∀ k, only b k → w.heap.size ≤ k := fun k hk => by have e : k = b := hk; omega
  go_wp2_with fail
  refine (take_calls g b 0 [] w1 P).mono ?_
  rintro e w2 ⟨⟨j, hj, hall, hout, rfl, P2⟩ | ⟨hall, _⟩, f⟩
  rotate_left
  · exact absurd (hall 0 (by decide)) (by simp)
  obtain rfl : j = 0 := by
    rcases Nat.eq_zero_or_pos j with h | h
    · exact h
    · exact absurd (hall 0 h) (by simp)
  replace B := Bl.trans B (Bl.of_fr f B.size hbb)
  replace P2 : Poo w2 g b 0 [0] := P2
  clear P f hall hout
  go_wp2_with fail
  refine (take_calls g b 0 [0] w2 P2).mono ?_
  rintro e w3 ⟨⟨j, hj, hall, hout, rfl, P3⟩ | ⟨hall, _⟩, f⟩
  rotate_left
  · exact absurd (hall 1 (by decide)) (by simp)
  obtain rfl : j = 1 := by
    rcases Nat.lt_or_ge 1 j with h | h
    · exact absurd (hall 1 h) (by simp)
    · rcases (show j = 0 ∨ j = 1 by omega) with rfl | rfl
      · simp at hout
      · rfl
  replace B := Bl.trans B (Bl.of_fr f B.size hbb)
  have P : Poo w3 g b 0 [2, 0] := P3
  clear P2 P3 f hall hout hj
  go_wp2_with fail
  refine (use_calls g b 0 [2, 0] 1 w3 P).mono ?_
  rintro e w2 ⟨he, P2, f⟩
  replace B := Bl.trans B (Bl.of_fr f B.size hbb)
  clear P f
  have P := P2
  clear P2
  replace P : Poo w2 g b 0 [1, 2, 0] := P
  rw [show useOf 0 [2, 0] 1 = 0 from rfl] at he
  subst he
  go_wp2_with fail
  refine (use_calls g b 0 [1, 2, 0] 1 w2 P).mono ?_
  rintro e w2 ⟨he, P2, f⟩
  replace B := Bl.trans B (Bl.of_fr f B.size hbb)
  clear P f
  have P := P2
  clear P2
  replace P : Poo w2 g b 0 [1, 2, 0] := P
  rw [show useOf 0 [1, 2, 0] 1 = 170 from rfl] at he
  subst he
  go_wp2_with fail
  refine (use_calls g b 0 [1, 2, 0] 4 w2 P).mono ?_
  rintro e w2 ⟨he, P2, f⟩
  replace B := Bl.trans B (Bl.of_fr f B.size hbb)
  clear P f
  have P := P2
  clear P2
  replace P : Poo w2 g b 0 [1, 2, 0] := P
  rw [show useOf 0 [1, 2, 0] 4 = 2 from rfl] at he
  subst he
  go_wp2_with fail
  refine (free_calls g b 0 [1, 2, 0] 0 w2 P (by decide) (by decide)).mono ?_
  rintro e w2 ⟨he, P2, f⟩
  replace B := Bl.trans B (Bl.of_fr f B.size hbb)
  clear P f
  have P := P2
  clear P2
  replace P : Poo w2 g b 0 [1, 2] := P
  rw [show decide ((0 : Int) ∈ ([1, 2, 0] : List Int)) = true from rfl] at he
  subst he
  go_wp2_with fail
  refine (free_calls g b 0 [1, 2] 0 w2 P (by decide) (by decide)).mono ?_
  rintro e w2 ⟨he, P2, f⟩
  replace B := Bl.trans B (Bl.of_fr f B.size hbb)
  clear P f
  have P := P2
  clear P2
  rw [show decide ((0 : Int) ∈ ([1, 2] : List Int)) = false from rfl] at he
  subst he
  go_wp2_with fail
  refine (mine_calls g b 0 _ 6 w2 P).mono ?_
  rintro e w3 ⟨he, rfl⟩
  rw [show mine 0 6 = true from rfl] at he
  subst he
  go_wp2
  go_ret
  exact ⟨rfl, B⟩
end Go.Proofs.Yticlgonbbaodpaa.Ident
