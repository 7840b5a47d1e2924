/- A chunk that was got is put as the bytes that it was got from. Plain facts. -/
import Derived.Test.YtaifihoheieneaaChkLaw4
namespace Go.Proofs.Ytaifihoheieneaa.Chk
open Go.RowKit Go.Proofs.Ytaifihoheieneaa.Mem Go.Proofs.Ytaifihoheieneaa.Octet Go.Proofs.Ytaifihoheieneaa.Prm
set_option linter.unusedVariables false
set_option linter.unusedSimpArgs false
theorem num_two_ (a b : Int) (ha : 0 ≤ a ∧ a < 256) (hb : 0 ≤ b ∧ b < 256) : b16 (num [a, b]) = [a, b] := by
  have e : num [a, b] = 256 * a + b := by simp [num]; omega
  rw [e]; unfold b16
  congr 1
  · omega
  · congr 1; omega
theorem num_four_ (a b c d : Int) (ha : 0 ≤ a ∧ a < 256) (hb : 0 ≤ b ∧ b < 256) (hc : 0 ≤ c ∧ c < 256) (hd : 0 ≤ d ∧ d < 256) : b32 (num [a, b, c, d]) = [a, b, c, d] := by
  have e : num [a, b, c, d] = 16777216 * a + 65536 * b + 256 * c + d := by simp [num]; omega
  rw [e]; unfold b32
  congr 1
  · omega
  · congr 1
    · omega
    · congr 1
      · omega
      · congr 1; omega
theorem tk_in {xs : List Int} {n : Nat} (h : n ≤ xs.length) : tk xs n = xs.take n := by
  unfold tk
  rw [if_neg (by omega)]
  simp
theorem s16 {xs : List Int} (hB : IsB xs) {m : Nat} (h : m + 2 ≤ xs.length) : b16 (at2 xs m) ++ xs.drop (m + 2) = xs.drop m := by
  have e : xs.drop (m + 2) = (xs.drop m).drop 2 := by rw [List.drop_drop]
  have hl : 2 ≤ (xs.drop m).length := by rw [List.length_drop]; omega
  have hB' := isb_drop hB m
  unfold at2
  rw [e]
  generalize xs.drop m = ys at *
  match ys, hl with
  | a :: b :: ys, _ =>
    rw [show tk (a :: b :: ys) 2 = [a, b] from tk_in (xs := a :: b :: ys) (n := 2) (by simp)]
    show b16 (num [a, b]) ++ ys = _
    rw [num_two_ a b (hB' a (by simp)) (hB' b (by simp))]
    rfl
theorem s32 {xs : List Int} (hB : IsB xs) {m : Nat} (h : m + 4 ≤ xs.length) : b32 (at4 xs m) ++ xs.drop (m + 4) = xs.drop m := by
  have e : xs.drop (m + 4) = (xs.drop m).drop 4 := by rw [List.drop_drop]
  have hl : 4 ≤ (xs.drop m).length := by rw [List.length_drop]; omega
  have hB' := isb_drop hB m
  unfold at4
  rw [e]
  generalize xs.drop m = ys at *
  match ys, hl with
  | a :: b :: c :: d :: ys, _ =>
    rw [show tk (a :: b :: c :: d :: ys) 4 = [a, b, c, d] from tk_in (xs := a :: b :: c :: d :: ys) (n := 4) (by simp)]
    show b32 (num [a, b, c, d]) ++ ys = _
    rw [num_four_ a b c d (hB' a (by simp)) (hB' b (by simp)) (hB' c (by simp)) (hB' d (by simp))]
    rfl
theorem gaps_back {xs : List Int} (hB : IsB xs) (m : Nat) : ∀ n : Nat, m + 4 * n ≤ xs.length → gB (gapsAt xs m n) ++ xs.drop (m + 4 * n) = xs.drop m
  | 0, _ => by simp [gapsAt, gB]
  | n + 1, h => by
    have e : gapsAt xs m (n + 1) = gapsAt xs m n ++ [(at2 xs (m + 4 * n), at2 xs (m + 4 * n + 2))] := by unfold gapsAt; rw [List.range_succ, List.map_append]; rfl
    have e2 : gB [(at2 xs (m + 4 * n), at2 xs (m + 4 * n + 2))] = b16 (at2 xs (m + 4 * n)) ++ b16 (at2 xs (m + 4 * n + 2)) := by simp [gB]
    rw [e, gB_app, e2, List.append_assoc, List.append_assoc, show m + 4 * (n + 1) = m + 4 * n + 2 + 2 by omega, s16 hB (by omega), s16 hB (by omega)]
    exact gaps_back hB m n (by omega)
theorem dups_back {xs : List Int} (hB : IsB xs) (m : Nat) : ∀ n : Nat, m + 4 * n ≤ xs.length → dB (dupsAt xs m n) ++ xs.drop (m + 4 * n) = xs.drop m
  | 0, _ => by simp [dupsAt, dB]
  | n + 1, h => by
    have e : dupsAt xs m (n + 1) = dupsAt xs m n ++ [at4 xs (m + 4 * n)] := by unfold dupsAt; rw [List.range_succ, List.map_append]; rfl
    have e2 : dB [at4 xs (m + 4 * n)] = b32 (at4 xs (m + 4 * n)) := by simp [dB]
    rw [e, dB_app, e2, List.append_assoc, show m + 4 * (n + 1) = m + 4 * n + 4 by omega, s32 hB (by omega)]
    exact dups_back hB m n (by omega)
theorem skips_back {xs : List Int} (hB : IsB xs) : ∀ n : Nat, 4 + 4 * n ≤ xs.length → sB (skipsAt xs n) ++ xs.drop (4 + 4 * n) = xs.drop 4
  | 0, _ => by simp [skipsAt, sB]
  | n + 1, h => by
    have e : skipsAt xs (n + 1) = skipsAt xs n ++ [(at2 xs (4 + 4 * n), false, at2 xs (4 + 4 * n + 2))] := by unfold skipsAt; rw [List.range_succ, List.map_append]; rfl
    have hr := at2_rng hB (4 + 4 * n + 2)
    have e2 : sB [(at2 xs (4 + 4 * n), false, at2 xs (4 + 4 * n + 2))] = b16 (at2 xs (4 + 4 * n)) ++ b16 (at2 xs (4 + 4 * n + 2)) := by simp [sB]; congr 1; omega
    rw [e, sB_app, e2, List.append_assoc, List.append_assoc, show 4 + 4 * (n + 1) = 4 + 4 * n + 2 + 2 by omega, s16 hB (by omega), s16 hB (by omega)]
    exact skips_back hB n (by omega)
theorem skips_it_back {xs : List Int} (hB : IsB xs) : ∀ n : Nat, 4 + 8 * n ≤ xs.length → (∀ j, j < n → at2 xs (6 + 8 * j) ≤ 1) → tB (skipsIt xs n) ++ xs.drop (4 + 8 * n) = xs.drop 4
  | 0, _, _ => by simp [skipsIt, tB]
  | n + 1, h, hj => by
    have e : skipsIt xs (n + 1) = skipsIt xs n ++ [(at2 xs (4 + 8 * n), at2 xs (4 + 8 * n + 2) == 1, at4 xs (4 + 8 * n + 4))] := by unfold skipsIt; rw [List.range_succ, List.map_append]; rfl
    have hr := at2_rng hB (4 + 8 * n + 2)
    have h1 := hj n (by omega)
    rw [show 6 + 8 * n = 4 + 8 * n + 2 by omega] at h1
    have hb : bt (at2 xs (4 + 8 * n + 2) == 1) 1 = at2 xs (4 + 8 * n + 2) := by
      unfold bt
      by_cases h2 : at2 xs (4 + 8 * n + 2) = 1
      · rw [h2]; rfl
      · have : at2 xs (4 + 8 * n + 2) = 0 := by omega
        rw [this]; rfl
    have e2 : tB [(at2 xs (4 + 8 * n), at2 xs (4 + 8 * n + 2) == 1, at4 xs (4 + 8 * n + 4))] = b16 (at2 xs (4 + 8 * n)) ++ (b16 (at2 xs (4 + 8 * n + 2)) ++ b32 (at4 xs (4 + 8 * n + 4))) := by
      show b16 (at2 xs (4 + 8 * n)) ++ b16 (bt (at2 xs (4 + 8 * n + 2) == 1) 1) ++ b32 (at4 xs (4 + 8 * n + 4)) ++ [] = _
      rw [hb, List.append_nil, List.append_assoc]
    rw [e, tB_app, e2]
    simp only [List.append_assoc]
    rw [show 4 + 8 * (n + 1) = 4 + 8 * n + 4 + 4 by omega, s32 hB (by omega), show 4 + 8 * n + 4 = 4 + 8 * n + 2 + 2 by omega, s16 hB (by omega), s16 hB (by omega)]
    exact skips_it_back hB n (by omega) (fun j h => hj j (by omega))
theorem fl3_back {f : Int} (h : 0 ≤ f ∧ f < 8) : bt (flE f) 1 + bt (flB f) 2 + bt (flL f) 4 = f := by
  have : f = 0 ∨ f = 1 ∨ f = 2 ∨ f = 3 ∨ f = 4 ∨ f = 5 ∨ f = 6 ∨ f = 7 := by omega
  rcases this with rfl | rfl | rfl | rfl | rfl | rfl | rfl | rfl <;> decide
theorem fl1_back {f : Int} (h : 0 ≤ f ∧ f < 2) : bt (flE f) 1 = f := by
  have : f = 0 ∨ f = 1 := by omega
  rcases this with rfl | rfl <;> decide
theorem all_fit {ps : List Pm} (h : ∀ p ∈ ps, Fit p) : allFit ps = true := by
  unfold allFit
  rw [List.all_eq_true]
  intro p hp
  exact decide_eq_true (h p hp).2.2.2
/-- What was read is put as it was. -/
theorem rC_back {k f : Int} {xs : List Int} (hk : kn k = true) (hf : 0 ≤ f ∧ f < 256) (hB : IsB xs) (h : rOk k f xs = true) : fl (rC k f xs) = f ∧ bB (rC k f xs) = xs ∧ bE (rC k f xs) = 0 := by
  simp [kn] at hk
  have pr : ∀ ys, IsB ys → (dec ys).2 = 0 → enc (dec ys).1 = ys ∧ allFit (dec ys).1 = true := fun ys hy h => by
    obtain ⟨h1, h2⟩ := enc_dec ys.length ys (Nat.le_refl _) hy h
    exact ⟨h2, all_fit h1⟩
  rcases hk with rfl | rfl | rfl | rfl | rfl | rfl | rfl | rfl | rfl | rfl | rfl | rfl | rfl | rfl | rfl | rfl | rfl
  · have h := of_decide_eq_true (p := f < 8 ∧ 13 ≤ xs.length) h
    have e1 := s32 hB (m := 0) (by omega)
    have e2 := s16 hB (m := 4) (by omega)
    have e3 := s16 hB (m := 6) (by omega)
    have e4 := s32 hB (m := 8) (by omega)
    have r6 := at2_rng hB 6
    refine ⟨fl3_back (by omega), ?_, ?_⟩
    · show b32 (at4 xs 0) ++ b16 (at2 xs 4) ++ b16 (at2 xs 6 % 65536) ++ b32 (at4 xs 8) ++ xs.drop 12 = xs
      rw [show at2 xs 6 % 65536 = at2 xs 6 by omega]
      simp only [List.append_assoc]
      rw [e4, e3, e2, e1]
      rfl
    · show (if xs.drop 12 = [] then (42 : Int) else 0) = 0
      rw [if_neg (by intro e; have := congrArg List.length e; rw [List.length_drop] at this; simp at this; omega)]
  · have h := of_decide_eq_true (p := f = 0 ∧ 16 ≤ xs.length ∧ (dec (xs.drop 16)).2 = 0) h
    obtain ⟨p1, p2⟩ := pr _ (isb_drop hB 16) h.2.2
    have e1 := s32 hB (m := 0) (by omega)
    have e2 := s32 hB (m := 4) (by omega)
    have e3 := s16 hB (m := 8) (by omega)
    have e4 := s16 hB (m := 10) (by omega)
    have e5 := s32 hB (m := 12) (by omega)
    refine ⟨h.1.symm, ?_, ?_⟩
    · show b32 (at4 xs 0) ++ b32 (at4 xs 4) ++ b16 (at2 xs 8) ++ b16 (at2 xs 10) ++ b32 (at4 xs 12) ++ enc (dec (xs.drop 16)).1 = xs
      simp only [List.append_assoc]
      rw [p1, e5, e4, e3, e2, e1]
      rfl
    · show (if allFit (dec (xs.drop 16)).1 = true then (0 : Int) else 43) = 0
      rw [if_pos p2]
  · have h := of_decide_eq_true (p := f = 0 ∧ 16 ≤ xs.length ∧ (dec (xs.drop 16)).2 = 0) h
    obtain ⟨p1, p2⟩ := pr _ (isb_drop hB 16) h.2.2
    have e1 := s32 hB (m := 0) (by omega)
    have e2 := s32 hB (m := 4) (by omega)
    have e3 := s16 hB (m := 8) (by omega)
    have e4 := s16 hB (m := 10) (by omega)
    have e5 := s32 hB (m := 12) (by omega)
    refine ⟨h.1.symm, ?_, ?_⟩
    · show b32 (at4 xs 0) ++ b32 (at4 xs 4) ++ b16 (at2 xs 8) ++ b16 (at2 xs 10) ++ b32 (at4 xs 12) ++ enc (dec (xs.drop 16)).1 = xs
      simp only [List.append_assoc]
      rw [p1, e5, e4, e3, e2, e1]
      rfl
    · show (if allFit (dec (xs.drop 16)).1 = true then (0 : Int) else 43) = 0
      rw [if_pos p2]
  · have h := of_decide_eq_true (p := f = 0 ∧ 12 ≤ xs.length ∧ (xs.length : Int) = 12 + 4 * (at2 xs 8 + at2 xs 10)) h
    have r8 := at2_rng hB 8
    have r10 := at2_rng hB 10
    have e1 := s32 hB (m := 0) (by omega)
    have e2 := s32 hB (m := 4) (by omega)
    have e3 := s16 hB (m := 8) (by omega)
    have e4 := s16 hB (m := 10) (by omega)
    have e5 := gaps_back hB 12 (at2 xs 8).toNat (by omega)
    have e6 := dups_back hB (12 + 4 * (at2 xs 8).toNat) (at2 xs 10).toNat (by omega)
    have lg : (gapsAt xs 12 (at2 xs 8).toNat).length = (at2 xs 8).toNat := by simp [gapsAt]
    have ld : (dupsAt xs (12 + 4 * (at2 xs 8).toNat) (at2 xs 10).toNat).length = (at2 xs 10).toNat := by simp [dupsAt]
    have hend : xs.drop (12 + 4 * (at2 xs 8).toNat + 4 * (at2 xs 10).toNat) = [] := List.drop_eq_nil_of_le (by omega)
    rw [hend, List.append_nil] at e6
    refine ⟨h.1.symm, ?_, ?_⟩
    · show b32 (at4 xs 0) ++ b32 (at4 xs 4) ++ b16 ((gapsAt xs 12 (at2 xs 8).toNat).length : Nat) ++ b16 ((dupsAt xs (12 + 4 * (at2 xs 8).toNat) (at2 xs 10).toNat).length : Nat) ++ gB (gapsAt xs 12 (at2 xs 8).toNat) ++ dB (dupsAt xs (12 + 4 * (at2 xs 8).toNat) (at2 xs 10).toNat) = xs
      rw [lg, ld, Int.toNat_of_nonneg r8.1, Int.toNat_of_nonneg r10.1]
      simp only [List.append_assoc]
      rw [e6, e5, e4, e3, e2, e1]
      rfl
    · show (if 65535 < (gapsAt xs 12 (at2 xs 8).toNat).length ∨ 65535 < (dupsAt xs (12 + 4 * (at2 xs 8).toNat) (at2 xs 10).toNat).length then (43 : Int) else 0) = 0
      rw [lg, ld, if_neg (by omega)]
  · have h := of_decide_eq_true (p := f = 0) h
    exact ⟨h.symm, rfl, rfl⟩
  · have h := of_decide_eq_true (p := f = 0) h
    exact ⟨h.symm, rfl, rfl⟩
  · have h := of_decide_eq_true (p := f < 2 ∧ (dec xs).2 = 0) h
    obtain ⟨p1, p2⟩ := pr _ hB h.2
    refine ⟨fl1_back (by omega), p1, ?_⟩
    show (if allFit (dec xs).1 = true then (0 : Int) else 43) = 0
    rw [if_pos p2]
  · have h := of_decide_eq_true (p := f = 0 ∧ xs.length = 4) h
    have e1 := s32 hB (m := 0) (by omega)
    refine ⟨h.1.symm, ?_, rfl⟩
    show b32 (at4 xs 0) = xs
    rw [show xs.drop (0 + 4) = [] from List.drop_eq_nil_of_le (by omega), List.append_nil] at e1
    exact e1
  · have h := of_decide_eq_true (p := f = 0 ∧ xs.length = 0) h
    have := List.eq_nil_of_length_eq_zero h.2
    subst this
    exact ⟨h.1.symm, rfl, rfl⟩
  · have h := of_decide_eq_true (p := f = 0 ∧ (dec xs).2 = 0) h
    obtain ⟨p1, p2⟩ := pr _ hB h.2
    refine ⟨h.1.symm, p1, ?_⟩
    show (if allFit (dec xs).1 = true then (0 : Int) else 43) = 0
    rw [if_pos p2]
  · have h := of_decide_eq_true (p := f = 0) h
    exact ⟨h.symm, rfl, rfl⟩
  · have h := of_decide_eq_true (p := f = 0 ∧ xs.length = 0) h
    have := List.eq_nil_of_length_eq_zero h.2
    subst this
    exact ⟨h.1.symm, rfl, rfl⟩
  · have h := of_decide_eq_true (p := f < 2 ∧ xs.length = 0) h
    have := List.eq_nil_of_length_eq_zero h.2
    subst this
    exact ⟨fl1_back (by omega), rfl, rfl⟩
  · have h := of_decide_eq_true (p := f < 8 ∧ 17 ≤ xs.length ∧ at2 xs 6 = 0) h
    have e1 := s32 hB (m := 0) (by omega)
    have e2 := s16 hB (m := 4) (by omega)
    have e3 := s16 hB (m := 6) (by omega)
    have e4 := s32 hB (m := 8) (by omega)
    have e5 := s32 hB (m := 12) (by omega)
    refine ⟨fl3_back (by omega), ?_, ?_⟩
    · show b32 (at4 xs 0) ++ b16 (at2 xs 4) ++ b16 0 ++ b32 (at4 xs 8) ++ b32 (if flB f then (if flB f then at4 xs 12 else 0) else (if flB f then 0 else at4 xs 12)) ++ xs.drop 16 = xs
      rw [show (if flB f then (if flB f then at4 xs 12 else 0) else (if flB f then 0 else at4 xs 12)) = at4 xs 12 by cases flB f <;> rfl]
      rw [h.2.2] at e3
      simp only [List.append_assoc]
      rw [e5, e4, e3, e2, e1]
      rfl
    · show (if xs.drop 16 = [] then (42 : Int) else 0) = 0
      rw [if_neg (by intro e; have := congrArg List.length e; rw [List.length_drop] at this; simp at this; omega)]
  · have h := of_decide_eq_true (p := f = 0 ∧ (dec xs).2 = 0) h
    obtain ⟨p1, p2⟩ := pr _ hB h.2
    refine ⟨h.1.symm, p1, ?_⟩
    show (if allFit (dec xs).1 = true then (0 : Int) else 43) = 0
    rw [if_pos p2]
  · have h := of_decide_eq_true (p := f = 0 ∧ 4 ≤ xs.length ∧ (xs.length - 4) % 4 = 0) h
    have e1 := s32 hB (m := 0) (by omega)
    have e2 := skips_back hB ((xs.length - 4) / 4) (by omega)
    rw [show xs.drop (4 + 4 * ((xs.length - 4) / 4)) = [] from List.drop_eq_nil_of_le (by omega), List.append_nil] at e2
    refine ⟨h.1.symm, ?_, rfl⟩
    show b32 (at4 xs 0) ++ sB (skipsAt xs ((xs.length - 4) / 4)) = xs
    rw [e2, e1]
    rfl
  · have h := of_decide_eq_true (p := f = 0 ∧ 4 ≤ xs.length ∧ (xs.length - 4) % 8 = 0 ∧ ∀ j, j < (xs.length - 4) / 8 → at2 xs (6 + 8 * j) ≤ 1) h
    have e1 := s32 hB (m := 0) (by omega)
    have e2 := skips_it_back hB ((xs.length - 4) / 8) (by omega) h.2.2.2
    rw [show xs.drop (4 + 8 * ((xs.length - 4) / 8)) = [] from List.drop_eq_nil_of_le (by omega), List.append_nil] at e2
    refine ⟨h.1.symm, ?_, rfl⟩
    show b32 (at4 xs 0) ++ tB (skipsIt xs ((xs.length - 4) / 8)) = xs
    rw [e2, e1]
    rfl
/-- The bounds of what was read. -/
theorem rC_b {k f : Int} {xs : List Int} (hk : 0 ≤ k ∧ k < 256) (hB : IsB xs) (h : rOk k f xs = true) (hkn : kn k = true) : CkB (rC k f xs) := by
  have z3 : 0 ≤ (0 : Int) ∧ (0 : Int) < 4294967296 := by decide
  have z1 : 0 ≤ (0 : Int) ∧ (0 : Int) < 65536 := by decide
  have z : CkB (zC k) := ⟨hk, z3, z1, z3, z3, z3, z3, z3, z1, z1, fun _ h => absurd h List.not_mem_nil, fun _ h => absurd h List.not_mem_nil, fun _ h => absurd h List.not_mem_nil, fun _ h => absurd h List.not_mem_nil, fun _ h => absurd h List.not_mem_nil⟩
  have r2 := at2_rng hB
  have r4 := at4_rng xs
  have w2 : ∀ m, 0 ≤ at2 xs m ∧ at2 xs m < 4294967296 := fun m => by have := r2 m; omega
  have pr : ∀ ys, IsB ys → (dec ys).2 = 0 → ∀ p ∈ (dec ys).1, InB p := fun ys hy h p hp => by
    obtain ⟨h1, h2⟩ := enc_dec ys.length ys (Nat.le_refl _) hy h
    have := h1 p hp
    exact ⟨this.1, this.2.1, this.2.2.1⟩
  simp [kn] at hkn
  rcases hkn with rfl | rfl | rfl | rfl | rfl | rfl | rfl | rfl | rfl | rfl | rfl | rfl | rfl | rfl | rfl | rfl | rfl
  · exact { z with tsn := r4 0, st := r2 4, mid := w2 6, pp := r4 8, body := isb_drop hB 12 }
  · have h := of_decide_eq_true (p := f = 0 ∧ 16 ≤ xs.length ∧ (dec (xs.drop 16)).2 = 0) h
    exact { z with tag := r4 0, win := r4 4, out := r2 8, inn := r2 10, tsn := r4 12, ps := pr _ (isb_drop hB 16) h.2.2 }
  · have h := of_decide_eq_true (p := f = 0 ∧ 16 ≤ xs.length ∧ (dec (xs.drop 16)).2 = 0) h
    exact { z with tag := r4 0, win := r4 4, out := r2 8, inn := r2 10, tsn := r4 12, ps := pr _ (isb_drop hB 16) h.2.2 }
  · refine { z with tsn := r4 0, win := r4 4, gaps := ?_, dups := ?_ }
    · intro g hg
      obtain ⟨j, _, rfl⟩ := List.mem_map.1 hg
      exact ⟨r2 _, r2 _⟩
    · intro g hg
      obtain ⟨j, _, rfl⟩ := List.mem_map.1 hg
      exact r4 _
  · exact { z with body := hB }
  · exact { z with body := hB }
  · have h := of_decide_eq_true (p := f < 2 ∧ (dec xs).2 = 0) h
    exact { z with ps := pr _ hB h.2 }
  · exact { z with tsn := r4 0 }
  · exact z
  · have h := of_decide_eq_true (p := f = 0 ∧ (dec xs).2 = 0) h
    exact { z with ps := pr _ hB h.2 }
  · exact { z with body := hB }
  · exact z
  · exact { z with k := z.k }
  · refine { z with tsn := r4 0, st := r2 4, mid := r4 8, pp := ?_, fr := ?_, body := isb_drop hB 16 }
    · have := r4 12
      show 0 ≤ (if flB f then at4 xs 12 else 0) ∧ (if flB f then at4 xs 12 else 0) < 4294967296
      split <;> omega
    · have := r4 12
      show 0 ≤ (if flB f then 0 else at4 xs 12) ∧ (if flB f then 0 else at4 xs 12) < 4294967296
      split <;> omega
  · have h := of_decide_eq_true (p := f = 0 ∧ (dec xs).2 = 0) h
    exact { z with ps := pr _ hB h.2 }
  · refine { z with tsn := r4 0, skips := ?_ }
    intro g hg
    obtain ⟨j, _, rfl⟩ := List.mem_map.1 hg
    exact ⟨r2 _, w2 _⟩
  · refine { z with tsn := r4 0, skips := ?_ }
    intro g hg
    obtain ⟨j, _, rfl⟩ := List.mem_map.1 hg
    exact ⟨r2 _, r4 _⟩
theorem dec_len {xs : List Int} (hB : IsB xs) : (enc (dec xs).1).length ≤ xs.length ∧ (dec xs).1.length ≤ xs.length := by
  by_cases h : (dec xs).2 = 0
  · obtain ⟨h1, h2⟩ := enc_dec xs.length xs (Nat.le_refl _) hB h
    have : ∀ ps : List Pm, ps.length ≤ (enc ps).length := fun ps => by
      induction ps with
      | nil => exact Nat.le_refl _
      | cons p ps ih =>
        show ps.length + 1 ≤ (encP p ++ enc ps).length
        have := encP_pos p
        rw [List.length_append]; omega
    have h3 := this (dec xs).1
    rw [h2] at h3 ⊢
    exact ⟨Nat.le_refl _, h3⟩
  · rw [dec_bad h]; exact ⟨Nat.zero_le _, Nat.zero_le _⟩
theorem rC_l {k f : Int} {xs : List Int} (hB : IsB xs) (hl : xs.length ≤ 1000000) (hkn : kn k = true) : CkL (rC k f xs) := by
  have z : CkL (zC k) := ⟨by simp [zC], by simp [zC], by simp [zC], by simp [zC, enc], by simp [zC], by simp [zC]⟩
  have hd : ∀ m, (xs.drop m).length ≤ 1000000000 := fun m => by rw [List.length_drop]; omega
  have r2 := at2_rng hB
  have ra : ∀ m, (enc (dec (xs.drop m)).1).length ≤ 1000000000 ∧ (dec (xs.drop m)).1.length ≤ 1000000000 := fun m => by
    have := dec_len (isb_drop hB m)
    rw [List.length_drop] at this
    omega
  have rb := dec_len hB
  simp [kn] at hkn
  rcases hkn with rfl | rfl | rfl | rfl | rfl | rfl | rfl | rfl | rfl | rfl | rfl | rfl | rfl | rfl | rfl | rfl | rfl
  · exact { z with body := hd 12 }
  · exact { z with ps := (ra 16).1, pl := (ra 16).2 }
  · exact { z with ps := (ra 16).1, pl := (ra 16).2 }
  · refine { z with gaps := ?_, dups := ?_ }
    · show (List.map _ _).length ≤ _
      rw [List.length_map, List.length_range]
      have := r2 8; omega
    · show (List.map _ _).length ≤ _
      rw [List.length_map, List.length_range]
      have := r2 10; omega
  · exact { z with body := by show xs.length ≤ _; omega }
  · exact { z with body := by show xs.length ≤ _; omega }
  · exact { z with ps := by show (enc (dec xs).1).length ≤ _; omega, pl := by show (dec xs).1.length ≤ _; omega }
  · exact { z with gaps := z.gaps }
  · exact z
  · exact { z with ps := by show (enc (dec xs).1).length ≤ _; omega, pl := by show (dec xs).1.length ≤ _; omega }
  · exact { z with body := by show xs.length ≤ _; omega }
  · exact z
  · exact { z with gaps := z.gaps }
  · exact { z with body := hd 16 }
  · exact { z with ps := by show (enc (dec xs).1).length ≤ _; omega, pl := by show (dec xs).1.length ≤ _; omega }
  · exact { z with skips := by show (List.map _ _).length ≤ _; rw [List.length_map, List.length_range]; omega }
  · exact { z with skips := by show (List.map _ _).length ≤ _; rw [List.length_map, List.length_range]; omega }
theorem num_one_ (a : Int) (ha : 0 ≤ a ∧ a < 256) : num [a] = a := by simp [num]; omega
/-- Bytes that begin with a chunk. -/
theorem gE_ok {bs : List Int} (h : gE bs = 0) : 4 ≤ bs.length ∧ 4 ≤ gL bs ∧ all (gL bs) ≤ bs.length ∧ ((bs.take (all (gL bs))).drop (gL bs)).any (fun x => x != 0) = false ∧ kn (at1 bs 0) = true ∧ rOk (at1 bs 0) (at1 bs 1) (gI bs) = true := by
  unfold gE at h
  by_cases h1 : bs.length < 4
  · rw [if_pos h1] at h; cases h
  rw [if_neg h1] at h
  by_cases h2 : gL bs < 4
  · rw [if_pos h2] at h; cases h
  rw [if_neg h2] at h
  by_cases h3 : bs.length < all (gL bs)
  · rw [if_pos h3] at h; cases h
  rw [if_neg h3] at h
  cases h4 : ((bs.take (all (gL bs))).drop (gL bs)).any (fun x => x != 0) with
  | true => rw [if_pos h4] at h; cases h
  | false =>
    rw [if_neg (by rw [h4]; decide)] at h
    cases h5 : kn (at1 bs 0) with
    | false => rw [if_pos h5] at h; cases h
    | true =>
      rw [if_neg (by rw [h5]; decide)] at h
      cases h6 : rOk (at1 bs 0) (at1 bs 1) (gI bs) with
      | false => rw [if_pos h6] at h; cases h
      | true => exact ⟨by omega, by omega, by omega, rfl, rfl, rfl⟩
/-- A chunk got is put as the bytes that it was got from. -/
theorem got_put {bs : List Int} (hB : IsB bs) (h : gE bs = 0) : cE (gCk bs) = 0 ∧ cB (gCk bs) = bs.take (gN bs) ∧ CkB (gCk bs) ∧ gN bs ≤ bs.length ∧ 4 ≤ gN bs ∧ (gCk bs).k = at1 bs 0 := by
  obtain ⟨h1, h2, h3, h4, h5, h6⟩ := gE_ok h
  have r0 := at1_rng hB 0
  have r1 := at1_rng hB 1
  have r2 := at2_rng hB 2
  have hI : IsB (gI bs) := isb_drop (isb_take hB _) _
  have hg : gCk bs = rC (at1 bs 0) (at1 bs 1) (gI bs) := by unfold gCk; rw [if_pos h]
  have hn : gN bs = all (gL bs) := by unfold gN; rw [if_pos h]
  have ha : gL bs ≤ all (gL bs) ∧ all (gL bs) < gL bs + 4 := by unfold all; omega
  have hLr : gL bs < 65536 := by unfold gL; omega
  have hIl : (gI bs).length + 4 = gL bs := by unfold gI; rw [List.length_drop, List.length_take]; omega
  obtain ⟨b1, b2, b3⟩ := rC_back h5 r1 hI h6
  have hk := rC_k (at1 bs 0) (at1 bs 1) (gI bs)
  rw [hg, hn]
  refine ⟨?_, ?_, rC_b r0 hI h6 h5, h3, by omega, hk⟩
  · unfold cE
    rw [hk, b2, b3, if_neg (by rw [h5]; decide), if_neg (by decide), if_neg (by omega)]
  · unfold cB
    rw [hk, b1, b2, hIl]
    have hz := zeros_of h4
    have hpz : ((bs.take (all (gL bs))).drop (gL bs)).length = (4 - gL bs % 4) % 4 := by rw [List.length_drop, List.length_take]; unfold all at *; omega
    rw [hpz] at hz
    have hL : ((gL bs : Nat) : Int) = at2 bs 2 := by unfold gL; omega
    have e2 := s16 hB (m := 2) (by omega)
    rw [hL, ← hz]
    have s1 : gI bs = (bs.take (gL bs)).drop 4 := rfl
    have hf : [at1 bs 0, at1 bs 1] ++ b16 (at2 bs 2) = bs.take 4 := by
      unfold at1 at2
      match bs, h1, hB with
      | a :: b :: c :: d :: t, _, hB =>
        have t1 : tk ((a :: b :: c :: d :: t).drop 0) 1 = [a] := tk_in (xs := a :: b :: c :: d :: t) (n := 1) (by simp)
        have t2 : tk ((a :: b :: c :: d :: t).drop 1) 1 = [b] := tk_in (xs := b :: c :: d :: t) (n := 1) (by simp)
        have t3 : tk ((a :: b :: c :: d :: t).drop 2) 2 = [c, d] := tk_in (xs := c :: d :: t) (n := 2) (by simp)
        rw [t1, t2, t3, num_one_ a (hB a (by simp)), num_one_ b (hB b (by simp)), num_two_ c d (hB c (by simp)) (hB d (by simp))]
        rfl
    rw [hf, s1]
    have s3 : bs.take 4 ++ (bs.take (gL bs)).drop 4 = bs.take (gL bs) := by
      have := List.take_append_drop 4 (bs.take (gL bs))
      rwa [List.take_take, Nat.min_eq_left (by omega)] at this
    have s4 : bs.take (gL bs) ++ (bs.take (all (gL bs))).drop (gL bs) = bs.take (all (gL bs)) := by
      have := List.take_append_drop (gL bs) (bs.take (all (gL bs)))
      rwa [List.take_take, Nat.min_eq_left (by omega)] at this
    rw [s3, s4]
theorem got_l {bs : List Int} (hB : IsB bs) (h : gE bs = 0) : CkL (gCk bs) := by
  obtain ⟨h1, h2, h3, h4, h5, h6⟩ := gE_ok h
  have r2 := at2_rng hB 2
  have hI : IsB (gI bs) := isb_drop (isb_take hB _) _
  have hg : gCk bs = rC (at1 bs 0) (at1 bs 1) (gI bs) := by unfold gCk; rw [if_pos h]
  rw [hg]
  refine rC_l hI ?_ h5
  unfold gI gL
  rw [List.length_drop, List.length_take]
  omega
end Go.Proofs.Ytaifihoheieneaa.Chk
