/- A chunk in memory of which some fields are another's. Plain facts. -/
import Derived.Test.YtaifihoheieneaaChkLaw4
namespace Go.Proofs.Ytaifihoheieneaa.Chk
open Go.RowKit Go.Proofs.Ytaifihoheieneaa.Mem Go.Proofs.Ytaifihoheieneaa.Octet Go.Proofs.Ytaifihoheieneaa.Prm
set_option linter.unusedVariables false
set_option linter.unusedSimpArgs false
/-- Cells of one, but for some that are another's. -/
structure Mix (csG csO : Array Value) (S : Nat → Bool) (cs' : Array Value) : Prop where
  size : cs'.size = 19
  at_ : ∀ i, cs'[i]? = if S i = true then csO[i]? else csG[i]?
theorem Mix.refl {csG : Array Value} (csO : Array Value) (h : csG.size = 19) : Mix csG csO (fun _ => false) csG := ⟨h, fun i => by simp⟩
theorem Mix.congr {csG csO cs' : Array Value} {S S' : Nat → Bool} (h : Mix csG csO S cs') (e : ∀ i, S i = S' i) : Mix csG csO S' cs' := by
  have : S = S' := funext e
  exact this ▸ h
theorem Mix.set {csG csO cs' : Array Value} {S : Nat → Bool} {f : Nat} {v : Value} (h : Mix csG csO S cs') (hv : csO[f]? = some v) (hf : f < 19) : Mix csG csO (fun i => S i || i == f) (cs'.setIfInBounds f v) := by
  refine ⟨by rw [Array.size_setIfInBounds]; exact h.size, fun i => ?_⟩
  rw [Array.getElem?_setIfInBounds]
  by_cases hi : f = i
  · subst hi
    rw [if_pos rfl, if_pos (by rw [h.size]; exact hf), if_pos (by simp), hv]
  · rw [if_neg hi, h.at_ i]
    have : (i == f) = false := beq_eq_false_iff_ne.2 (fun e => hi e.symm)
    simp [this]
def mixc (S : Nat → Bool) (g o : Ck) : Ck :=
  ⟨bif S 0 then o.k else g.k, bif S 1 then o.b else g.b, bif S 2 then o.e else g.e, bif S 3 then o.l else g.l, bif S 4 then o.r else g.r, bif S 5 then o.tsn else g.tsn, bif S 6 then o.st else g.st, bif S 7 then o.mid else g.mid, bif S 8 then o.pp else g.pp, bif S 9 then o.fr else g.fr,
    bif S 10 then o.tag else g.tag, bif S 11 then o.win else g.win, bif S 12 then o.out else g.out, bif S 13 then o.inn else g.inn, bif S 14 then o.gaps else g.gaps, bif S 15 then o.dups else g.dups, bif S 16 then o.skips else g.skips, bif S 17 then o.ps else g.ps, bif S 18 then o.body else g.body⟩
theorem all_of_at {cs' csG csO : Array Value} (hG : csG.all (fun v => v.oneCell') = true) (hO : csO.all (fun v => v.oneCell') = true) (h : ∀ i : Nat, cs'[i]? = csO[i]? ∨ cs'[i]? = csG[i]?) : cs'.all (fun v => v.oneCell') = true := by
  rw [Array.all_eq_true] at hG hO ⊢
  intro i hi
  rcases h i with e | e
  · rw [Array.getElem?_eq_getElem hi] at e
    obtain ⟨h1, h2⟩ := Array.getElem?_eq_some_iff.1 e.symm
    rw [← h2]; exact hO i h1
  · rw [Array.getElem?_eq_getElem hi] at e
    obtain ⟨h1, h2⟩ := Array.getElem?_eq_some_iff.1 e.symm
    rw [← h2]; exact hG i h1
theorem Mix.v {w : World} {lo hi : Nat} {csG csO cs' : Array Value} {S : Nat → Bool} {g o : Ck} (h : Mix csG csO S cs') (hG : CkV w lo hi csG g) (hO : CkV w lo hi csO o) : CkV w lo hi cs' (mixc S g o) := by
  have H := h.at_
  have one : cs'.all (·.oneCell') = true := all_of_at hG.one hO.one (fun i => by rw [H i]; cases S i <;> simp)
  unfold mixc
  have k0 := H 0
  have k1 := H 1
  have k2 := H 2
  have k3 := H 3
  have k4 := H 4
  have k5 := H 5
  have k6 := H 6
  have k7 := H 7
  have k8 := H 8
  have k9 := H 9
  have k10 := H 10
  have k11 := H 11
  have k12 := H 12
  have k13 := H 13
  have k14 := H 14
  have k15 := H 15
  have k16 := H 16
  have k17 := H 17
  have k18 := H 18
  refine ⟨h.size, one, ?_, ?_, ?_, ?_, ?_, ?_, ?_, ?_, ?_, ?_, ?_, ?_, ?_, ?_, ?_, ?_, ?_, ?_, ?_⟩
  · rw [k0]
    cases S 0
    · simpa using hG.c0
    · simpa using hO.c0
  · rw [k1]
    cases S 1
    · simpa using hG.c1
    · simpa using hO.c1
  · rw [k2]
    cases S 2
    · simpa using hG.c2
    · simpa using hO.c2
  · rw [k3]
    cases S 3
    · simpa using hG.c3
    · simpa using hO.c3
  · rw [k4]
    cases S 4
    · simpa using hG.c4
    · simpa using hO.c4
  · rw [k5]
    cases S 5
    · simpa using hG.c5
    · simpa using hO.c5
  · rw [k6]
    cases S 6
    · simpa using hG.c6
    · simpa using hO.c6
  · rw [k7]
    cases S 7
    · simpa using hG.c7
    · simpa using hO.c7
  · rw [k8]
    cases S 8
    · simpa using hG.c8
    · simpa using hO.c8
  · rw [k9]
    cases S 9
    · simpa using hG.c9
    · simpa using hO.c9
  · rw [k10]
    cases S 10
    · simpa using hG.c10
    · simpa using hO.c10
  · rw [k11]
    cases S 11
    · simpa using hG.c11
    · simpa using hO.c11
  · rw [k12]
    cases S 12
    · simpa using hG.c12
    · simpa using hO.c12
  · rw [k13]
    cases S 13
    · simpa using hG.c13
    · simpa using hO.c13
  · rw [k14]
    cases S 14
    · obtain ⟨A, p, e, x⟩ := hG.c14
      exact ⟨A, p, by simpa using e, by simpa using x⟩
    · obtain ⟨A, p, e, x⟩ := hO.c14
      exact ⟨A, p, by simpa using e, by simpa using x⟩
  · rw [k15]
    cases S 15
    · obtain ⟨A, p, e, x⟩ := hG.c15
      exact ⟨A, p, by simpa using e, by simpa using x⟩
    · obtain ⟨A, p, e, x⟩ := hO.c15
      exact ⟨A, p, by simpa using e, by simpa using x⟩
  · rw [k16]
    cases S 16
    · obtain ⟨A, p, e, x⟩ := hG.c16
      exact ⟨A, p, by simpa using e, by simpa using x⟩
    · obtain ⟨A, p, e, x⟩ := hO.c16
      exact ⟨A, p, by simpa using e, by simpa using x⟩
  · rw [k17]
    cases S 17
    · obtain ⟨A, p, e, x⟩ := hG.c17
      exact ⟨A, p, by simpa using e, by simpa using x⟩
    · obtain ⟨A, p, e, x⟩ := hO.c17
      exact ⟨A, p, by simpa using e, by simpa using x⟩
  · rw [k18]
    cases S 18
    · obtain ⟨A, p, e, x⟩ := hG.c18
      exact ⟨A, p, by simpa using e, by simpa using x⟩
    · obtain ⟨A, p, e, x⟩ := hO.c18
      exact ⟨A, p, by simpa using e, by simpa using x⟩
theorem bare_mix (g o : Ck) : bare g o = mixc (fun i => if g.k = 7 then i == 6 || (i == 18 || (i == 14 || i == 4)) else if g.k = 11 ∨ g.k = 8 then i == 5 || (i == 17 || i == 1) else if g.k = 0 ∨ g.k = 64 then i == 11 || (i == 16 || i == 15) else if g.k = 3 then i == 18 || (i == 16 || i == 3) else i == 14 || (i == 15 || (i == 6 || i == 8))) g o := by
  unfold bare
  by_cases h7 : g.k = 7
  · simp only [if_pos h7]; rfl
  simp only [if_neg h7]
  by_cases h8 : g.k = 11 ∨ g.k = 8
  · simp only [if_pos h8]; rfl
  simp only [if_neg h8]
  by_cases h0 : g.k = 0 ∨ g.k = 64
  · simp only [if_pos h0]; rfl
  simp only [if_neg h0]
  by_cases h3 : g.k = 3
  · simp only [if_pos h3]; rfl
  simp only [if_neg h3]; rfl
end Go.Proofs.Ytaifihoheieneaa.Chk
