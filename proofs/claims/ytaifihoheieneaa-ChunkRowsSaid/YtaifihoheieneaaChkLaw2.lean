/- A chunk that was put reads as one of its kind. Plain facts. -/
import Derived.Test.YtaifihoheieneaaChkLaw
namespace Go.Proofs.Ytaifihoheieneaa.Chk
open Go.RowKit Go.Proofs.Ytaifihoheieneaa.Mem Go.Proofs.Ytaifihoheieneaa.Octet Go.Proofs.Ytaifihoheieneaa.Prm
set_option linter.unusedVariables false
set_option linter.unusedSimpArgs false
theorem fl_none {c : Ck} (h1 : c.k ≠ 0) (h2 : c.k ≠ 64) (h3 : c.k ≠ 6) (h4 : c.k ≠ 14) : fl c = 0 := by
  unfold fl
  rw [if_neg (by omega), if_neg (by omega)]
theorem fl_bare {c : Ck} (h : c.k = 6 ∨ c.k = 14) : fl c = bt c.r 1 := by
  unfold fl
  rw [if_neg (by omega), if_pos h]
theorem dec_put {c : Ck} (hB : CkB c) (h : bE c = 0) (hk : c.k = 1 ∨ c.k = 2 ∨ c.k = 6 ∨ c.k = 9 ∨ c.k = 130) : dec (enc c.ps) = (c.ps, 0) := by
  unfold bE at h
  rw [if_neg (by omega), if_neg (by omega), if_pos hk] at h
  refine dec_all (fit_of hB.ps ?_)
  cases hf : allFit c.ps with
  | true => rfl
  | false => rw [hf] at h; cases h
theorem tB_at (ss : List (Int × Bool × Int)) (t : Int) (j : Nat) (hj : j < ss.length) : at2 (b32 t ++ tB ss) (6 + 8 * j) ≤ 1 := by
  have e : tB ss = tB (ss.take j) ++ (b16 ss[j].1 ++ (b16 (bt ss[j].2.1 1) ++ (b32 ss[j].2.2 ++ tB (ss.drop (j + 1))))) := by
    conv => lhs; rw [← List.take_append_drop (j + 1) ss]
    unfold tB
    rw [List.flatMap_append]
    have := tB_take ss j hj
    unfold tB at this
    rw [this]
    simp [List.append_assoc]
  have hb := bt_rng1 ss[j].2.1 1 (by omega)
  have := at2_app (pre := b32 t ++ (tB (ss.take j) ++ b16 ss[j].1)) (x := bt ss[j].2.1 1) (ys := b32 ss[j].2.2 ++ tB (ss.drop (j + 1))) (m := 6 + 8 * j) (by simp only [List.length_append, b32_len, b16_len, tB_len, List.length_take]; omega) (by omega)
  have e2 : b32 t ++ tB ss = b32 t ++ (tB (ss.take j) ++ b16 ss[j].1) ++ (b16 (bt ss[j].2.1 1) ++ (b32 ss[j].2.2 ++ tB (ss.drop (j + 1)))) := by
    rw [e]
    simp only [List.append_assoc]
  rw [e2, this]
  omega
theorem got_ok {c : Ck} (hB : CkB c) (hE : cE c = 0) : rOk c.k (fl c) (bB c) = true := by
  obtain ⟨hk, hb, hl⟩ := cE_parts hE
  have hf8 := fl_rng c
  simp [kn] at hk
  rcases hk with hk | hk | hk | hk | hk | hk | hk | hk | hk | hk | hk | hk | hk | hk | hk | hk | hk
  · have hne : c.body ≠ [] := by intro h; unfold bE at hb; rw [if_pos (.inl hk), if_pos h] at hb; cases hb
    have hpos : 0 < c.body.length := List.length_pos_iff.2 hne
    have e : bB c = b32 c.tsn ++ b16 c.st ++ b16 (c.mid % 65536) ++ b32 c.pp ++ c.body := by simp [bB, hk]
    rw [hk, e]
    refine decide_eq_true (p := fl c < 8 ∧ 13 ≤ _) ⟨hf8.2, ?_⟩
    simp only [List.length_append, b32_len, b16_len]
    omega
  · have e : bB c = b32 c.tag ++ b32 c.win ++ b16 c.out ++ b16 c.inn ++ b32 c.tsn ++ enc c.ps := by simp [bB, hk]
    have hd := dec_put hB hb (by omega)
    have hf := fl_none (c := c) (by omega) (by omega) (by omega) (by omega)
    have hdr : (bB c).drop 16 = enc c.ps := by rw [e]; rfl
    have hle : 16 ≤ (bB c).length := by rw [e]; simp only [List.length_append, b32_len, b16_len]; omega
    rw [hk]
    exact decide_eq_true (p := fl c = 0 ∧ 16 ≤ (bB c).length ∧ (dec ((bB c).drop 16)).2 = 0) ⟨hf, hle, by rw [hdr, hd]⟩
  · have e : bB c = b32 c.tag ++ b32 c.win ++ b16 c.out ++ b16 c.inn ++ b32 c.tsn ++ enc c.ps := by simp [bB, hk]
    have hd := dec_put hB hb (by omega)
    have hf := fl_none (c := c) (by omega) (by omega) (by omega) (by omega)
    have hdr : (bB c).drop 16 = enc c.ps := by rw [e]; rfl
    have hle : 16 ≤ (bB c).length := by rw [e]; simp only [List.length_append, b32_len, b16_len]; omega
    rw [hk]
    exact decide_eq_true (p := fl c = 0 ∧ 16 ≤ (bB c).length ∧ (dec ((bB c).drop 16)).2 = 0) ⟨hf, hle, by rw [hdr, hd]⟩
  · have e : bB c = b32 c.tsn ++ b32 c.win ++ b16 c.gaps.length ++ b16 c.dups.length ++ gB c.gaps ++ dB c.dups := by simp [bB, hk]
    have hgd : ¬ (65535 < c.gaps.length ∨ 65535 < c.dups.length) := by intro h; unfold bE at hb; rw [if_neg (by omega), if_pos hk, if_pos h] at hb; cases hb
    have hf := fl_none (c := c) (by omega) (by omega) (by omega) (by omega)
    have h8 : at2 (bB c) 8 = c.gaps.length := by
      have := at2_app (pre := b32 c.tsn ++ b32 c.win) (x := (c.gaps.length : Int)) (ys := b16 c.dups.length ++ gB c.gaps ++ dB c.dups) (m := 8) rfl (by omega)
      rw [e]
      simpa only [List.append_assoc] using this
    have h10 : at2 (bB c) 10 = c.dups.length := by
      have := at2_app (pre := b32 c.tsn ++ b32 c.win ++ b16 c.gaps.length) (x := (c.dups.length : Int)) (ys := gB c.gaps ++ dB c.dups) (m := 10) rfl (by omega)
      rw [e]
      simpa only [List.append_assoc] using this
    have hle : (bB c).length = 12 + 4 * (c.gaps.length + c.dups.length) := by rw [e]; simp only [List.length_append, b32_len, b16_len, gB_len, dB_len]; omega
    rw [hk]
    exact decide_eq_true (p := fl c = 0 ∧ 12 ≤ (bB c).length ∧ ((bB c).length : Int) = 12 + 4 * (at2 (bB c) 8 + at2 (bB c) 10)) ⟨hf, by omega, by rw [h8, h10, hle]; omega⟩
  · have hf := fl_none (c := c) (by omega) (by omega) (by omega) (by omega)
    rw [hk]
    exact decide_eq_true (p := fl c = 0) hf
  · have hf := fl_none (c := c) (by omega) (by omega) (by omega) (by omega)
    rw [hk]
    exact decide_eq_true (p := fl c = 0) hf
  · have e : bB c = enc c.ps := by simp [bB, hk]
    have hd := dec_put hB hb (by omega)
    have hf := fl_bare (c := c) (.inl hk)
    have hr := bt_rng1 c.r 1 (by omega)
    rw [hk]
    exact decide_eq_true (p := fl c < 2 ∧ (dec (bB c)).2 = 0) ⟨by omega, by rw [e, hd]⟩
  · have e : bB c = b32 c.tsn := by simp [bB, hk]
    have hf := fl_none (c := c) (by omega) (by omega) (by omega) (by omega)
    rw [hk]
    exact decide_eq_true (p := fl c = 0 ∧ (bB c).length = 4) ⟨hf, by rw [e]; rfl⟩
  · have e : bB c = [] := by simp [bB, hk]
    have hf := fl_none (c := c) (by omega) (by omega) (by omega) (by omega)
    rw [hk]
    exact decide_eq_true (p := fl c = 0 ∧ (bB c).length = 0) ⟨hf, by rw [e]; rfl⟩
  · have e : bB c = enc c.ps := by simp [bB, hk]
    have hd := dec_put hB hb (by omega)
    have hf := fl_none (c := c) (by omega) (by omega) (by omega) (by omega)
    rw [hk]
    exact decide_eq_true (p := fl c = 0 ∧ (dec (bB c)).2 = 0) ⟨hf, by rw [e, hd]⟩
  · have hf := fl_none (c := c) (by omega) (by omega) (by omega) (by omega)
    rw [hk]
    exact decide_eq_true (p := fl c = 0) hf
  · have e : bB c = [] := by simp [bB, hk]
    have hf := fl_none (c := c) (by omega) (by omega) (by omega) (by omega)
    rw [hk]
    exact decide_eq_true (p := fl c = 0 ∧ (bB c).length = 0) ⟨hf, by rw [e]; rfl⟩
  · have e : bB c = [] := by simp [bB, hk]
    have hf := fl_bare (c := c) (.inr hk)
    have hr := bt_rng1 c.r 1 (by omega)
    rw [hk]
    exact decide_eq_true (p := fl c < 2 ∧ (bB c).length = 0) ⟨by omega, by rw [e]; rfl⟩
  · have hne : c.body ≠ [] := by intro h; unfold bE at hb; rw [if_pos (.inr hk), if_pos h] at hb; cases hb
    have hpos : 0 < c.body.length := List.length_pos_iff.2 hne
    have e : bB c = b32 c.tsn ++ b16 c.st ++ b16 0 ++ b32 c.mid ++ b32 (if c.b then c.pp else c.fr) ++ c.body := by simp [bB, hk]
    have h6 : at2 (bB c) 6 = 0 := by
      have := at2_app (pre := b32 c.tsn ++ b16 c.st) (x := 0) (ys := b32 c.mid ++ b32 (if c.b then c.pp else c.fr) ++ c.body) (m := 6) rfl (by omega)
      rw [e]
      simpa only [List.append_assoc] using this
    have hle : 17 ≤ (bB c).length := by rw [e]; simp only [List.length_append, b32_len, b16_len]; omega
    rw [hk]
    exact decide_eq_true (p := fl c < 8 ∧ 17 ≤ (bB c).length ∧ at2 (bB c) 6 = 0) ⟨hf8.2, hle, h6⟩
  · have e : bB c = enc c.ps := by simp [bB, hk]
    have hd := dec_put hB hb (by omega)
    have hf := fl_none (c := c) (by omega) (by omega) (by omega) (by omega)
    rw [hk]
    exact decide_eq_true (p := fl c = 0 ∧ (dec (bB c)).2 = 0) ⟨hf, by rw [e, hd]⟩
  · have e : bB c = b32 c.tsn ++ sB c.skips := by simp [bB, hk]
    have hf := fl_none (c := c) (by omega) (by omega) (by omega) (by omega)
    have hle : (bB c).length = 4 + c.skips.length * 4 := by rw [e]; simp only [List.length_append, b32_len, sB_len]
    rw [hk]
    exact decide_eq_true (p := fl c = 0 ∧ 4 ≤ (bB c).length ∧ ((bB c).length - 4) % 4 = 0) ⟨hf, by omega, by omega⟩
  · have e : bB c = b32 c.tsn ++ tB c.skips := by simp [bB, hk]
    have hf := fl_none (c := c) (by omega) (by omega) (by omega) (by omega)
    have hle : (bB c).length = 4 + c.skips.length * 8 := by rw [e]; simp only [List.length_append, b32_len, tB_len]
    rw [hk]
    exact decide_eq_true (p := fl c = 0 ∧ 4 ≤ (bB c).length ∧ ((bB c).length - 4) % 8 = 0 ∧ ∀ j, j < ((bB c).length - 4) / 8 → at2 (bB c) (6 + 8 * j) ≤ 1) ⟨hf, by omega, by omega, fun j hj => by rw [e]; exact tB_at _ _ _ (by omega)⟩
end Go.Proofs.Ytaifihoheieneaa.Chk
