/- A chunk that was got, with fields of other kinds set, is put as the same bytes. Plain facts. -/
import Derived.Test.YtaifihoheieneaaChkLaw3
namespace Go.Proofs.Ytaifihoheieneaa.Chk
open Go.RowKit Go.Proofs.Ytaifihoheieneaa.Mem Go.Proofs.Ytaifihoheieneaa.Octet Go.Proofs.Ytaifihoheieneaa.Prm
set_option linter.unusedVariables false
set_option linter.unusedSimpArgs false
/-- What ChunkBare sets. -/
def bare (c o : Ck) : Ck :=
  if c.k = 7 then { c with st := o.st, body := o.body, gaps := o.gaps, r := o.r }
  else if c.k = 11 ∨ c.k = 8 then { c with tsn := o.tsn, ps := o.ps, b := o.b }
  else if c.k = 0 ∨ c.k = 64 then { c with win := o.win, skips := o.skips, dups := o.dups }
  else if c.k = 3 then { c with body := o.body, skips := o.skips, l := o.l }
  else { c with gaps := o.gaps, dups := o.dups, st := o.st, pp := o.pp }
theorem sB_strip (ss : List (Int × Bool × Int)) : sB (ss.map fun s => (s.1, false, s.2.2 % 65536)) = sB ss := by
  induction ss with
  | nil => rfl
  | cons s ss ih =>
    show b16 s.1 ++ b16 (s.2.2 % 65536 % 65536) ++ sB (ss.map fun s => (s.1, false, s.2.2 % 65536)) = b16 s.1 ++ b16 (s.2.2 % 65536) ++ sB ss
    rw [ih, Int.emod_emod_of_dvd _ (Int.dvd_refl _)]
theorem bare_strip {c o : Ck} (hk : kn c.k = true) : (bare (strip c) o).k = c.k ∧ fl (bare (strip c) o) = fl c ∧ bB (bare (strip c) o) = bB c ∧ bE (bare (strip c) o) = bE c := by
  simp [kn] at hk
  have hs := strip_k c
  have hm : c.mid % 65536 % 65536 = c.mid % 65536 := Int.emod_emod_of_dvd _ (Int.dvd_refl _)
  rcases hk with hk | hk | hk | hk | hk | hk | hk | hk | hk | hk | hk | hk | hk | hk | hk | hk | hk
  all_goals
    rw [hk] at hs
    unfold bare
    rw [hs]
    simp [strip, hk, fl, bB, bE, zC, sB_strip, hm]
  all_goals (cases c.b <;> simp)
theorem bare_same {c o : Ck} (hE : cE c = 0) : cB (bare (strip c) o) = cB c ∧ cE (bare (strip c) o) = 0 := by
  obtain ⟨hk, _, _⟩ := cE_parts hE
  obtain ⟨e1, e2, e3, e4⟩ := bare_strip (o := o) hk
  refine ⟨by unfold cB; rw [e1, e2, e3], ?_⟩
  unfold cE at hE ⊢
  rw [e1, e3, e4]
  exact hE
theorem strip_b {c : Ck} (h : CkB c) : CkB (strip c) := by
  have z3 : 0 ≤ (0 : Int) ∧ (0 : Int) < 4294967296 := by decide
  have z1 : 0 ≤ (0 : Int) ∧ (0 : Int) < 65536 := by decide
  have z : CkB (zC c.k) := ⟨h.k, z3, z1, z3, z3, z3, z3, z3, z1, z1, fun _ h => absurd h List.not_mem_nil, fun _ h => absurd h List.not_mem_nil, fun _ h => absurd h List.not_mem_nil, fun _ h => absurd h List.not_mem_nil, fun _ h => absurd h List.not_mem_nil⟩
  unfold strip
  by_cases h0_ : c.k = 0
  · rw [if_pos h0_]
    exact { z with tsn := h.tsn, st := h.st, mid := by show 0 ≤ c.mid % 65536 ∧ c.mid % 65536 < 4294967296; omega, pp := h.pp, body := h.body }
  rw [if_neg h0_]
  by_cases h1_ : c.k = 64
  · rw [if_pos h1_]
    exact { z with tsn := h.tsn, st := h.st, mid := h.mid, pp := by have := h.pp; show 0 ≤ (if c.b then c.pp else 0) ∧ (if c.b then c.pp else 0) < 4294967296; split <;> omega, fr := by have := h.fr; show 0 ≤ (if c.b then 0 else c.fr) ∧ (if c.b then 0 else c.fr) < 4294967296; split <;> omega, body := h.body }
  rw [if_neg h1_]
  by_cases h2_ : c.k = 3
  · rw [if_pos h2_]
    exact { z with tsn := h.tsn, win := h.win, gaps := h.gaps, dups := h.dups }
  rw [if_neg h2_]
  by_cases h3_ : c.k = 4 ∨ c.k = 5 ∨ c.k = 10
  · rw [if_pos h3_]
    exact { z with body := h.body }
  rw [if_neg h3_]
  by_cases h4_ : c.k = 7
  · rw [if_pos h4_]
    exact { z with tsn := h.tsn }
  rw [if_neg h4_]
  by_cases h5_ : c.k = 192
  · rw [if_pos h5_]
    refine { z with tsn := h.tsn, skips := ?_ }
    intro g hg
    obtain ⟨s, hs, rfl⟩ := List.mem_map.1 hg
    have := h.skips s hs
    exact ⟨this.1, by show 0 ≤ s.2.2 % 65536 ∧ s.2.2 % 65536 < 4294967296; omega⟩
  rw [if_neg h5_]
  by_cases h6_ : c.k = 194
  · rw [if_pos h6_]
    exact { z with tsn := h.tsn, skips := h.skips }
  rw [if_neg h6_]
  by_cases h7_ : c.k = 1 ∨ c.k = 2
  · rw [if_pos h7_]
    exact { z with tag := h.tag, win := h.win, out := h.out, inn := h.inn, tsn := h.tsn, ps := h.ps }
  rw [if_neg h7_]
  by_cases h8_ : c.k = 6
  · rw [if_pos h8_]
    exact { z with ps := h.ps }
  rw [if_neg h8_]
  by_cases h9_ : c.k = 14
  · rw [if_pos h9_]
    exact { z with k := h.k }
  rw [if_neg h9_]
  by_cases h10_ : c.k = 9 ∨ c.k = 130
  · rw [if_pos h10_]
    exact { z with ps := h.ps }
  rw [if_neg h10_]
  exact z
theorem bare_b {c o : Ck} (h : CkB c) (ho : CkB o) : CkB (bare c o) := by
  unfold bare
  by_cases h0_ : c.k = 7
  · rw [if_pos h0_]
    exact { h with st := ho.st, body := ho.body, gaps := ho.gaps }
  rw [if_neg h0_]
  by_cases h1_ : c.k = 11 ∨ c.k = 8
  · rw [if_pos h1_]
    exact { h with tsn := ho.tsn, ps := ho.ps }
  rw [if_neg h1_]
  by_cases h2_ : c.k = 0 ∨ c.k = 64
  · rw [if_pos h2_]
    exact { h with win := ho.win, skips := ho.skips, dups := ho.dups }
  rw [if_neg h2_]
  by_cases h3_ : c.k = 3
  · rw [if_pos h3_]
    exact { h with body := ho.body, skips := ho.skips }
  rw [if_neg h3_]
  exact { h with gaps := ho.gaps, dups := ho.dups, st := ho.st, pp := ho.pp }
theorem strip_l {c : Ck} (h : CkL c) : CkL (strip c) := by
  have z : CkL (zC c.k) := ⟨by simp [zC], by simp [zC], by simp [zC], by simp [zC, enc], by simp [zC], by simp [zC]⟩
  unfold strip
  by_cases h0_ : c.k = 0
  · rw [if_pos h0_]
    exact { z with body := h.body }
  rw [if_neg h0_]
  by_cases h1_ : c.k = 64
  · rw [if_pos h1_]
    exact { z with body := h.body }
  rw [if_neg h1_]
  by_cases h2_ : c.k = 3
  · rw [if_pos h2_]
    exact { z with gaps := h.gaps, dups := h.dups }
  rw [if_neg h2_]
  by_cases h3_ : c.k = 4 ∨ c.k = 5 ∨ c.k = 10
  · rw [if_pos h3_]
    exact { z with body := h.body }
  rw [if_neg h3_]
  by_cases h4_ : c.k = 7
  · rw [if_pos h4_]
    exact { z with gaps := z.gaps }
  rw [if_neg h4_]
  by_cases h5_ : c.k = 192
  · rw [if_pos h5_]
    exact { z with skips := by show (c.skips.map _).length ≤ _; rw [List.length_map]; exact h.skips }
  rw [if_neg h5_]
  by_cases h6_ : c.k = 194
  · rw [if_pos h6_]
    exact { z with skips := h.skips }
  rw [if_neg h6_]
  by_cases h7_ : c.k = 1 ∨ c.k = 2
  · rw [if_pos h7_]
    exact { z with ps := h.ps, pl := h.pl }
  rw [if_neg h7_]
  by_cases h8_ : c.k = 6
  · rw [if_pos h8_]
    exact { z with ps := h.ps, pl := h.pl }
  rw [if_neg h8_]
  by_cases h9_ : c.k = 14
  · rw [if_pos h9_]
    exact { z with gaps := z.gaps }
  rw [if_neg h9_]
  by_cases h10_ : c.k = 9 ∨ c.k = 130
  · rw [if_pos h10_]
    exact { z with ps := h.ps, pl := h.pl }
  rw [if_neg h10_]
  exact z
theorem bare_l {c o : Ck} (h : CkL c) (ho : CkL o) : CkL (bare c o) := by
  unfold bare
  by_cases h0_ : c.k = 7
  · rw [if_pos h0_]
    exact { h with body := ho.body, gaps := ho.gaps }
  rw [if_neg h0_]
  by_cases h1_ : c.k = 11 ∨ c.k = 8
  · rw [if_pos h1_]
    exact { h with ps := ho.ps, pl := ho.pl }
  rw [if_neg h1_]
  by_cases h2_ : c.k = 0 ∨ c.k = 64
  · rw [if_pos h2_]
    exact { h with skips := ho.skips, dups := ho.dups }
  rw [if_neg h2_]
  by_cases h3_ : c.k = 3
  · rw [if_pos h3_]
    exact { h with body := ho.body, skips := ho.skips }
  rw [if_neg h3_]
  exact { h with gaps := ho.gaps, dups := ho.dups }
end Go.Proofs.Ytaifihoheieneaa.Chk
