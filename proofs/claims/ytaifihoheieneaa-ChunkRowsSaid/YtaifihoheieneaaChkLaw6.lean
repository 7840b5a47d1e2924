/- The bytes of chunks are bytes; flags' bits. Plain facts. -/
import Derived.Test.YtaifihoheieneaaChkLaw5
namespace Go.Proofs.Ytaifihoheieneaa.Chk
open Go.RowKit Go.Proofs.Ytaifihoheieneaa.Mem Go.Proofs.Ytaifihoheieneaa.Octet Go.Proofs.Ytaifihoheieneaa.Prm
set_option linter.unusedVariables false
set_option linter.unusedSimpArgs false
theorem isb_nil : IsB [] := fun x h => absurd h List.not_mem_nil
theorem isb_app {xs ys : List Int} (h1 : IsB xs) (h2 : IsB ys) : IsB (xs ++ ys) := fun x h => by
  rcases List.mem_append.1 h with h | h
  · exact h1 x h
  · exact h2 x h
theorem isb_b16 (x : Int) : IsB (b16 x) := fun y h => by
  simp only [b16, List.mem_cons, List.not_mem_nil, or_false] at h
  rcases h with rfl | rfl <;> omega
theorem isb_b32 (x : Int) : IsB (b32 x) := fun y h => by
  simp only [b32, List.mem_cons, List.not_mem_nil, or_false] at h
  rcases h with rfl | rfl | rfl | rfl <;> omega
theorem isb_map {α : Type} {f : α → List Int} (hf : ∀ a, IsB (f a)) (l : List α) : IsB (l.flatMap f) := fun x h => by
  obtain ⟨a, _, h⟩ := List.mem_flatMap.1 h
  exact hf a x h
theorem isb_gB (l : List (Int × Int)) : IsB (gB l) := isb_map (fun g => isb_app (isb_b16 _) (isb_b16 _)) l
theorem isb_dB (l : List Int) : IsB (dB l) := isb_map (fun g => isb_b32 _) l
theorem isb_sB (l : List (Int × Bool × Int)) : IsB (sB l) := isb_map (fun g => isb_app (isb_b16 _) (isb_b16 _)) l
theorem isb_tB (l : List (Int × Bool × Int)) : IsB (tB l) := isb_map (fun g => isb_app (isb_app (isb_b16 _) (isb_b16 _)) (isb_b32 _)) l
theorem isb_encP_ (p : Pm) (h : IsB p.2) : IsB (encP p) := by
  unfold encP
  refine isb_app (fun x hx => ?_) (isb_app h (fun x hx => ?_))
  · simp only [List.mem_cons, List.not_mem_nil, or_false] at hx
    rcases hx with rfl | rfl | rfl | rfl <;> omega
  · rw [List.eq_of_mem_replicate hx]; decide
theorem isb_enc_ {ps : List Pm} (h : ∀ p ∈ ps, InB p) : IsB (enc ps) := by
  induction ps with
  | nil => exact isb_nil
  | cons p ps ih =>
    show IsB (encP p ++ enc ps)
    exact isb_app (isb_encP_ p (h p (by simp)).2.2) (ih (fun q hq => h q (List.mem_cons_of_mem _ hq)))
theorem isb_bB {c : Ck} (h : CkB c) : IsB (bB c) := by
  have hp := isb_enc_ h.ps
  unfold bB
  by_cases h0 : c.k = 0
  · rw [if_pos h0]
    exact isb_app (isb_app (isb_app (isb_app (isb_b32 _) (isb_b16 _)) (isb_b16 _)) (isb_b32 _)) h.body
  rw [if_neg h0]
  by_cases h0 : c.k = 64
  · rw [if_pos h0]
    exact isb_app (isb_app (isb_app (isb_app (isb_app (isb_b32 _) (isb_b16 _)) (isb_b16 _)) (isb_b32 _)) (isb_b32 _)) h.body
  rw [if_neg h0]
  by_cases h0 : c.k = 3
  · rw [if_pos h0]
    exact isb_app (isb_app (isb_app (isb_app (isb_app (isb_b32 _) (isb_b32 _)) (isb_b16 _)) (isb_b16 _)) (isb_gB _)) (isb_dB _)
  rw [if_neg h0]
  by_cases h0 : c.k = 4 ∨ c.k = 5 ∨ c.k = 10
  · rw [if_pos h0]
    exact h.body
  rw [if_neg h0]
  by_cases h0 : c.k = 7
  · rw [if_pos h0]
    exact isb_b32 _
  rw [if_neg h0]
  by_cases h0 : c.k = 192
  · rw [if_pos h0]
    exact isb_app (isb_b32 _) (isb_sB _)
  rw [if_neg h0]
  by_cases h0 : c.k = 194
  · rw [if_pos h0]
    exact isb_app (isb_b32 _) (isb_tB _)
  rw [if_neg h0]
  by_cases h0 : c.k = 1 ∨ c.k = 2
  · rw [if_pos h0]
    exact isb_app (isb_app (isb_app (isb_app (isb_app (isb_b32 _) (isb_b32 _)) (isb_b16 _)) (isb_b16 _)) (isb_b32 _)) hp
  rw [if_neg h0]
  by_cases h0 : c.k = 6 ∨ c.k = 9 ∨ c.k = 130
  · rw [if_pos h0]
    exact hp
  rw [if_neg h0]
  exact isb_nil
theorem isb_zz {k f : Int} {xs : List Int} (hk : 0 ≤ k ∧ k < 256) (hf : 0 ≤ f ∧ f < 256) (h : IsB xs) : IsB (zz k f xs) := by
  unfold zz
  refine isb_app (isb_app (isb_app (fun x hx => ?_) (isb_b16 _)) h) (fun x hx => ?_)
  · simp only [List.mem_cons, List.not_mem_nil, or_false] at hx
    rcases hx with rfl | rfl <;> assumption
  · rw [List.eq_of_mem_replicate hx]; decide
theorem isb_cB {c : Ck} (h : CkB c) : IsB (cB c) := by
  have := fl_rng c
  exact isb_zz h.k (by omega) (isb_bB h)
theorem cB_len4 {c : Ck} : 4 ≤ (cB c).length := by rw [cB_zz, zz_len]; unfold all; omega
theorem cB_top {c : Ck} (h : cE c = 0) : (cB c).length ≤ 65536 := by
  obtain ⟨h1, h2, h3⟩ := cE_parts h
  rw [cB_zz, zz_len]; unfold all; omega
theorem cB_set (c : Ck) (f : Int) : (cB c).set 1 f = zz c.k f (bB c) := by
  rw [cB_zz]
  unfold zz
  rfl
/-- A chunk's own flags that were read. -/
theorem rC_fl3 {k f : Int} {xs : List Int} (h : k = 0 ∨ k = 64) : (rC k f xs).e = flE f ∧ (rC k f xs).b = flB f ∧ (rC k f xs).l = flL f := by
  rcases h with rfl | rfl <;> exact ⟨rfl, rfl, rfl⟩
theorem rC_fl1 {k f : Int} {xs : List Int} (h : k = 6 ∨ k = 14) : (rC k f xs).r = flE f := by
  rcases h with rfl | rfl <;> rfl
theorem flE_one {f : Int} (h0 : 0 ≤ f) (h : f < 2) : flE f = (f == 1) := by
  have : f = 0 ∨ f = 1 := by omega
  rcases this with rfl | rfl <;> decide
end Go.Proofs.Ytaifihoheieneaa.Chk
