/- A chunk that was put is got: the head, the length, the padding; cut off it is none. Plain facts. -/
import Derived.Test.YtaifihoheieneaaZChkReads
import Derived.Test.YtaifihoheieneaaZChkPut
namespace Go.Proofs.Ytaifihoheieneaa.Chk
open Go.RowKit Go.Proofs.Ytaifihoheieneaa.Mem Go.Proofs.Ytaifihoheieneaa.Octet Go.Proofs.Ytaifihoheieneaa.Prm
set_option linter.unusedVariables false
set_option linter.unusedSimpArgs false
theorem tk_pre {xs ys : List Int} {n : Nat} (h : xs.length = n) : tk (xs ++ ys) n = xs := by
  unfold tk
  rw [if_neg (by simp; omega)]
  subst h
  simp
theorem at2_app {pre ys : List Int} {x : Int} {m : Nat} (hm : pre.length = m) (hx : 0 ≤ x ∧ x < 65536) : at2 (pre ++ (b16 x ++ ys)) m = x := by
  subst hm
  unfold at2
  rw [List.drop_left, show tk (b16 x ++ ys) 2 = b16 x from tk_pre (xs := b16 x) (n := 2) rfl]
  simp [num, b16]
  omega
theorem at4_app {pre ys : List Int} {x : Int} {m : Nat} (hm : pre.length = m) (hx : 0 ≤ x ∧ x < 4294967296) : at4 (pre ++ (b32 x ++ ys)) m = x := by
  subst hm
  unfold at4
  rw [List.drop_left, show tk (b32 x ++ ys) 4 = b32 x from tk_pre (xs := b32 x) (n := 4) rfl]
  simp [num, b32]
  omega
theorem at1_app {pre ys : List Int} {x : Int} {m : Nat} (hm : pre.length = m) (hx : 0 ≤ x ∧ x < 256) : at1 (pre ++ ([x] ++ ys)) m = x := by
  subst hm
  unfold at1
  rw [List.drop_left, show tk ([x] ++ ys) 1 = [x] from tk_pre (xs := [x]) (n := 1) rfl]
  simp [num]
  omega
theorem at2_short {xs : List Int} {m : Nat} (h : xs.length < m + 2) : at2 xs m = 0 := by
  unfold at2 tk
  rw [if_pos (.inr (by rw [List.length_drop]; omega))]
  rfl
def zz (k f : Int) (xs : List Int) : List Int := [k, f] ++ b16 ((xs.length + 4 : Nat) : Int) ++ xs ++ List.replicate ((4 - (xs.length + 4) % 4) % 4) 0
theorem zz_len (k f : Int) (xs : List Int) : (zz k f xs).length = all (xs.length + 4) := by
  unfold zz b16 all
  simp only [List.length_append, List.length_cons, List.length_nil, List.length_replicate]
  omega
theorem zz_k {k f : Int} {xs more : List Int} (hk : 0 ≤ k ∧ k < 256) : at1 (zz k f xs ++ more) 0 = k := by
  have := at1_app (pre := []) (x := k) (ys := [f] ++ b16 ((xs.length + 4 : Nat) : Int) ++ xs ++ List.replicate ((4 - (xs.length + 4) % 4) % 4) 0 ++ more) (m := 0) rfl hk
  simpa [zz] using this
theorem zz_f {k f : Int} {xs more : List Int} (hk : 0 ≤ f ∧ f < 256) : at1 (zz k f xs ++ more) 1 = f := by
  have := at1_app (pre := [k]) (x := f) (ys := b16 ((xs.length + 4 : Nat) : Int) ++ xs ++ List.replicate ((4 - (xs.length + 4) % 4) % 4) 0 ++ more) (m := 1) rfl hk
  simpa [zz] using this
theorem zz_n {k f : Int} {xs more : List Int} (hl : xs.length + 4 ≤ 65535) : at2 (zz k f xs ++ more) 2 = ((xs.length + 4 : Nat) : Int) := by
  have := at2_app (pre := [k, f]) (x := ((xs.length + 4 : Nat) : Int)) (ys := xs ++ List.replicate ((4 - (xs.length + 4) % 4) % 4) 0 ++ more) (m := 2) rfl (by omega)
  have e : zz k f xs ++ more = [k, f] ++ (b16 ((xs.length + 4 : Nat) : Int) ++ (xs ++ List.replicate ((4 - (xs.length + 4) % 4) % 4) 0 ++ more)) := by simp [zz]
  rw [e]
  exact this
theorem zz_take (k f : Int) (xs more : List Int) : (zz k f xs ++ more).take (xs.length + 4) = [k, f] ++ b16 ((xs.length + 4 : Nat) : Int) ++ xs := by
  have e : zz k f xs ++ more = ([k, f] ++ b16 ((xs.length + 4 : Nat) : Int) ++ xs) ++ (List.replicate ((4 - (xs.length + 4) % 4) % 4) 0 ++ more) := by simp [zz]
  rw [e]
  apply List.take_left'
  simp [b16]
theorem zz_body (k f : Int) (xs more : List Int) : ((zz k f xs ++ more).take (xs.length + 4)).drop 4 = xs := by
  rw [zz_take]
  rfl
theorem zz_pad (k f : Int) (xs more : List Int) : ((zz k f xs ++ more).take (all (xs.length + 4))).drop (xs.length + 4) = List.replicate ((4 - (xs.length + 4) % 4) % 4) 0 := by
  rw [← zz_len k f xs, List.take_left']
  · have e : zz k f xs = ([k, f] ++ b16 ((xs.length + 4 : Nat) : Int) ++ xs) ++ List.replicate ((4 - (xs.length + 4) % 4) % 4) 0 := rfl
    rw [e]
    apply List.drop_left'
    simp [b16]
  · rfl
theorem rep_any (n : Nat) : (List.replicate n (0 : Int)).any (fun x => x != 0) = false := by
  rw [List.any_eq_false]
  intro x hx
  rw [List.eq_of_mem_replicate hx]
  decide
/-- A cut head tells a length of its own or none. -/
theorem zz_cut {k f : Int} {xs : List Int} (hl : xs.length + 4 ≤ 65535) {j : Nat} (h4 : 4 ≤ j) : at2 ((zz k f xs).take j) 2 = ((xs.length + 4 : Nat) : Int) := by
  have e2 : zz k f xs = ([k, f] ++ b16 ((xs.length + 4 : Nat) : Int)) ++ (xs ++ List.replicate ((4 - (xs.length + 4) % 4) % 4) 0) := by simp [zz]
  have e3 : (zz k f xs).take j = [k, f] ++ (b16 ((xs.length + 4 : Nat) : Int) ++ (xs ++ List.replicate ((4 - (xs.length + 4) % 4) % 4) 0).take (j - 4)) := by
    rw [e2, List.take_append, List.take_of_length_le (by simp [b16]; omega)]
    simp [b16]
  rw [e3]
  exact at2_app rfl (by omega)
theorem cB_zz (c : Ck) : cB c = zz c.k (fl c) (bB c) := rfl
theorem cE_parts {c : Ck} (hE : cE c = 0) : kn c.k = true ∧ bE c = 0 ∧ (bB c).length + 4 ≤ 65535 := by
  unfold cE at hE
  split at hE
  · cases hE
  · rename_i h1
    split at hE
    · rename_i h; exact absurd hE h
    · rename_i h2
      split at hE
      · cases hE
      · refine ⟨by simpa using h1, by simpa using h2, by omega⟩
theorem bt_rng1 (b : Bool) (v : Int) (h : 0 ≤ v) : 0 ≤ bt b v ∧ bt b v ≤ v := by cases b <;> simp [bt] <;> omega
theorem fl_rng (c : Ck) : 0 ≤ fl c ∧ fl c < 8 := by
  have f1 := bt_rng1 c.e 1 (by omega)
  have f2 := bt_rng1 c.b 2 (by omega)
  have f3 := bt_rng1 c.l 4 (by omega)
  have f4 := bt_rng1 c.r 1 (by omega)
  unfold fl
  split
  · omega
  · split <;> omega
/-- What stands at the head of a chunk's bytes, with any behind them. -/
theorem put_head {c : Ck} (hB : CkB c) (hE : cE c = 0) (more : List Int) : at1 (cB c ++ more) 0 = c.k ∧ at1 (cB c ++ more) 1 = fl c ∧ gL (cB c ++ more) = (bB c).length + 4 ∧ gI (cB c ++ more) = bB c := by
  obtain ⟨h1, h2, h3⟩ := cE_parts hE
  have h4 := fl_rng c
  rw [cB_zz]
  have hn := zz_n (k := c.k) (f := fl c) (xs := bB c) (more := more) h3
  have hg : gL (zz c.k (fl c) (bB c) ++ more) = (bB c).length + 4 := by unfold gL; rw [hn]; omega
  refine ⟨zz_k hB.k, zz_f (by omega), hg, ?_⟩
  unfold gI
  rw [hg]
  exact zz_body _ _ _ _
theorem put_got {c : Ck} (hB : CkB c) (hE : cE c = 0) (more : List Int) : gE (cB c ++ more) = if rOk c.k (fl c) (bB c) = false then 42 else 0 := by
  obtain ⟨e1, e2, e3, e4⟩ := put_head hB hE more
  obtain ⟨h1, h2, h3⟩ := cE_parts hE
  have hl := zz_len c.k (fl c) (bB c)
  have ha : (bB c).length + 4 ≤ all ((bB c).length + 4) := by unfold all; omega
  rw [gE_6 (by rw [List.length_append, cB_zz, hl]; omega) (by rw [e3]; omega) (by rw [e3, List.length_append, cB_zz, hl]; omega) (by rw [e3, cB_zz, zz_pad]; exact rep_any _) (by rw [e1]; exact h1), e1, e2, e4]
theorem put_long {c : Ck} (hB : CkB c) (hE : cE c = 0) (more : List Int) (hok : rOk c.k (fl c) (bB c) = true) : gN (cB c ++ more) = (cB c).length ∧ gCk (cB c ++ more) = rC c.k (fl c) (bB c) := by
  obtain ⟨e1, e2, e3, e4⟩ := put_head hB hE more
  have hg : gE (cB c ++ more) = 0 := by rw [put_got hB hE, hok]; rfl
  unfold gN gCk
  rw [if_pos hg, if_pos hg, e1, e2, e3, e4, cB_zz, zz_len]
  exact ⟨rfl, rfl⟩
theorem put_cut {c : Ck} (hE : cE c = 0) {j : Nat} (hj : j < (cB c).length) : gE ((cB c).take j) = 40 := by
  obtain ⟨h1, h2, h3⟩ := cE_parts hE
  by_cases h4 : j < 4
  · exact gE_1 (by rw [List.length_take]; omega)
  · have hl := zz_len c.k (fl c) (bB c)
    rw [← cB_zz] at hl
    have hlt : ((cB c).take j).length = j := by rw [List.length_take]; omega
    have hg : gL ((cB c).take j) = (bB c).length + 4 := by
      unfold gL
      rw [cB_zz, zz_cut h3 (by omega)]
      omega
    exact gE_3 (by omega) (by omega) (by rw [hg, hlt]; omega)
end Go.Proofs.Ytaifihoheieneaa.Chk
namespace Go.Proofs.Ytaifihoheieneaa.Chk
open Go.RowKit Go.Proofs.Ytaifihoheieneaa.Mem Go.Proofs.Ytaifihoheieneaa.Octet Go.Proofs.Ytaifihoheieneaa.Prm
set_option linter.unusedVariables false
set_option linter.unusedSimpArgs false
theorem fl_none {c : Ck} (h1 : c.k ≠ 0) (h2 : c.k ≠ 64) (h3 : c.k ≠ 6) (h4 : c.k ≠ 14) : fl c = 0 := by
  unfold fl
  rw [if_neg (by omega), if_neg (by omega)]
theorem fl_bare {c : Ck} (h : c.k = 6 ∨ c.k = 14) : fl c = bt c.r 1 := by
  unfold fl
  rw [if_neg (by omega), if_pos h]
theorem dec_put {c : Ck} (hB : CkB c) (h : bE c = 0) (hk : c.k = 1 ∨ c.k = 2 ∨ c.k = 6 ∨ c.k = 9 ∨ c.k = 130) : dec (enc c.ps) = (c.ps, 0) := by
  unfold bE at h
  rw [if_neg (by omega), if_neg (by omega), if_pos hk] at h
  refine dec_all (fit_of hB.ps ?_)
  cases hf : allFit c.ps with
  | true => rfl
  | false => rw [hf] at h; cases h
theorem tB_at (ss : List (Int × Bool × Int)) (t : Int) (j : Nat) (hj : j < ss.length) : at2 (b32 t ++ tB ss) (6 + 8 * j) ≤ 1 := by
  have e : tB ss = tB (ss.take j) ++ (b16 ss[j].1 ++ (b16 (bt ss[j].2.1 1) ++ (b32 ss[j].2.2 ++ tB (ss.drop (j + 1))))) := by
    conv => lhs; rw [← List.take_append_drop (j + 1) ss]
    unfold tB
    rw [List.flatMap_append]
    have := tB_take ss j hj
    unfold tB at this
    rw [this]
    simp [List.append_assoc]
  have hb := bt_rng1 ss[j].2.1 1 (by omega)
  have := at2_app (pre := b32 t ++ (tB (ss.take j) ++ b16 ss[j].1)) (x := bt ss[j].2.1 1) (ys := b32 ss[j].2.2 ++ tB (ss.drop (j + 1))) (m := 6 + 8 * j) (by simp only [List.length_append, b32_len, b16_len, tB_len, List.length_take]; omega) (by omega)
  have e2 : b32 t ++ tB ss = b32 t ++ (tB (ss.take j) ++ b16 ss[j].1) ++ (b16 (bt ss[j].2.1 1) ++ (b32 ss[j].2.2 ++ tB (ss.drop (j + 1)))) := by
    rw [e]
    simp only [List.append_assoc]
  rw [e2, this]
  omega
theorem got_ok {c : Ck} (hB : CkB c) (hE : cE c = 0) : rOk c.k (fl c) (bB c) = true := by
  obtain ⟨hk, hb, hl⟩ := cE_parts hE
  have hf8 := fl_rng c
  simp [kn] at hk
  rcases hk with hk | hk | hk | hk | hk | hk | hk | hk | hk | hk | hk | hk | hk | hk | hk | hk | hk
  · have hne : c.body ≠ [] := by intro h; unfold bE at hb; rw [if_pos (.inl hk), if_pos h] at hb; cases hb
    have hpos : 0 < c.body.length := List.length_pos_iff.2 hne
    have e : bB c = b32 c.tsn ++ b16 c.st ++ b16 (c.mid % 65536) ++ b32 c.pp ++ c.body := by simp [bB, hk]
    rw [hk, e]
    refine decide_eq_true (p := fl c < 8 ∧ 13 ≤ _) ⟨hf8.2, ?_⟩
    simp only [List.length_append, b32_len, b16_len]
    omega
  · have e : bB c = b32 c.tag ++ b32 c.win ++ b16 c.out ++ b16 c.inn ++ b32 c.tsn ++ enc c.ps := by simp [bB, hk]
    have hd := dec_put hB hb (by omega)
    have hf := fl_none (c := c) (by omega) (by omega) (by omega) (by omega)
    have hdr : (bB c).drop 16 = enc c.ps := by rw [e]; rfl
    have hle : 16 ≤ (bB c).length := by rw [e]; simp only [List.length_append, b32_len, b16_len]; omega
    rw [hk]
    exact decide_eq_true (p := fl c = 0 ∧ 16 ≤ (bB c).length ∧ (dec ((bB c).drop 16)).2 = 0) ⟨hf, hle, by rw [hdr, hd]⟩
  · have e : bB c = b32 c.tag ++ b32 c.win ++ b16 c.out ++ b16 c.inn ++ b32 c.tsn ++ enc c.ps := by simp [bB, hk]
    have hd := dec_put hB hb (by omega)
    have hf := fl_none (c := c) (by omega) (by omega) (by omega) (by omega)
    have hdr : (bB c).drop 16 = enc c.ps := by rw [e]; rfl
    have hle : 16 ≤ (bB c).length := by rw [e]; simp only [List.length_append, b32_len, b16_len]; omega
    rw [hk]
    exact decide_eq_true (p := fl c = 0 ∧ 16 ≤ (bB c).length ∧ (dec ((bB c).drop 16)).2 = 0) ⟨hf, hle, by rw [hdr, hd]⟩
  · have e : bB c = b32 c.tsn ++ b32 c.win ++ b16 c.gaps.length ++ b16 c.dups.length ++ gB c.gaps ++ dB c.dups := by simp [bB, hk]
    have hgd : ¬ (65535 < c.gaps.length ∨ 65535 < c.dups.length) := by intro h; unfold bE at hb; rw [if_neg (by omega), if_pos hk, if_pos h] at hb; cases hb
    have hf := fl_none (c := c) (by omega) (by omega) (by omega) (by omega)
    have h8 : at2 (bB c) 8 = c.gaps.length := by
      have := at2_app (pre := b32 c.tsn ++ b32 c.win) (x := (c.gaps.length : Int)) (ys := b16 c.dups.length ++ gB c.gaps ++ dB c.dups) (m := 8) rfl (by omega)
      rw [e]
      simpa only [List.append_assoc] using this
    have h10 : at2 (bB c) 10 = c.dups.length := by
      have := at2_app (pre := b32 c.tsn ++ b32 c.win ++ b16 c.gaps.length) (x := (c.dups.length : Int)) (ys := gB c.gaps ++ dB c.dups) (m := 10) rfl (by omega)
      rw [e]
      simpa only [List.append_assoc] using this
    have hle : (bB c).length = 12 + 4 * (c.gaps.length + c.dups.length) := by rw [e]; simp only [List.length_append, b32_len, b16_len, gB_len, dB_len]; omega
    rw [hk]
    exact decide_eq_true (p := fl c = 0 ∧ 12 ≤ (bB c).length ∧ ((bB c).length : Int) = 12 + 4 * (at2 (bB c) 8 + at2 (bB c) 10)) ⟨hf, by omega, by rw [h8, h10, hle]; omega⟩
  · have hf := fl_none (c := c) (by omega) (by omega) (by omega) (by omega)
    rw [hk]
    exact decide_eq_true (p := fl c = 0) hf
  · have hf := fl_none (c := c) (by omega) (by omega) (by omega) (by omega)
    rw [hk]
    exact decide_eq_true (p := fl c = 0) hf
  · have e : bB c = enc c.ps := by simp [bB, hk]
    have hd := dec_put hB hb (by omega)
    have hf := fl_bare (c := c) (.inl hk)
    have hr := bt_rng1 c.r 1 (by omega)
    rw [hk]
    exact decide_eq_true (p := fl c < 2 ∧ (dec (bB c)).2 = 0) ⟨by omega, by rw [e, hd]⟩
  · have e : bB c = b32 c.tsn := by simp [bB, hk]
    have hf := fl_none (c := c) (by omega) (by omega) (by omega) (by omega)
    rw [hk]
    exact decide_eq_true (p := fl c = 0 ∧ (bB c).length = 4) ⟨hf, by rw [e]; rfl⟩
  · have e : bB c = [] := by simp [bB, hk]
    have hf := fl_none (c := c) (by omega) (by omega) (by omega) (by omega)
    rw [hk]
    exact decide_eq_true (p := fl c = 0 ∧ (bB c).length = 0) ⟨hf, by rw [e]; rfl⟩
  · have e : bB c = enc c.ps := by simp [bB, hk]
    have hd := dec_put hB hb (by omega)
    have hf := fl_none (c := c) (by omega) (by omega) (by omega) (by omega)
    rw [hk]
    exact decide_eq_true (p := fl c = 0 ∧ (dec (bB c)).2 = 0) ⟨hf, by rw [e, hd]⟩
  · have hf := fl_none (c := c) (by omega) (by omega) (by omega) (by omega)
    rw [hk]
    exact decide_eq_true (p := fl c = 0) hf
  · have e : bB c = [] := by simp [bB, hk]
    have hf := fl_none (c := c) (by omega) (by omega) (by omega) (by omega)
    rw [hk]
    exact decide_eq_true (p := fl c = 0 ∧ (bB c).length = 0) ⟨hf, by rw [e]; rfl⟩
  · have e : bB c = [] := by simp [bB, hk]
    have hf := fl_bare (c := c) (.inr hk)
    have hr := bt_rng1 c.r 1 (by omega)
    rw [hk]
    exact decide_eq_true (p := fl c < 2 ∧ (bB c).length = 0) ⟨by omega, by rw [e]; rfl⟩
  · have hne : c.body ≠ [] := by intro h; unfold bE at hb; rw [if_pos (.inr hk), if_pos h] at hb; cases hb
    have hpos : 0 < c.body.length := List.length_pos_iff.2 hne
    have e : bB c = b32 c.tsn ++ b16 c.st ++ b16 0 ++ b32 c.mid ++ b32 (if c.b then c.pp else c.fr) ++ c.body := by simp [bB, hk]
    have h6 : at2 (bB c) 6 = 0 := by
      have := at2_app (pre := b32 c.tsn ++ b16 c.st) (x := 0) (ys := b32 c.mid ++ b32 (if c.b then c.pp else c.fr) ++ c.body) (m := 6) rfl (by omega)
      rw [e]
      simpa only [List.append_assoc] using this
    have hle : 17 ≤ (bB c).length := by rw [e]; simp only [List.length_append, b32_len, b16_len]; omega
    rw [hk]
    exact decide_eq_true (p := fl c < 8 ∧ 17 ≤ (bB c).length ∧ at2 (bB c) 6 = 0) ⟨hf8.2, hle, h6⟩
  · have e : bB c = enc c.ps := by simp [bB, hk]
    have hd := dec_put hB hb (by omega)
    have hf := fl_none (c := c) (by omega) (by omega) (by omega) (by omega)
    rw [hk]
    exact decide_eq_true (p := fl c = 0 ∧ (dec (bB c)).2 = 0) ⟨hf, by rw [e, hd]⟩
  · have e : bB c = b32 c.tsn ++ sB c.skips := by simp [bB, hk]
    have hf := fl_none (c := c) (by omega) (by omega) (by omega) (by omega)
    have hle : (bB c).length = 4 + c.skips.length * 4 := by rw [e]; simp only [List.length_append, b32_len, sB_len]
    rw [hk]
    exact decide_eq_true (p := fl c = 0 ∧ 4 ≤ (bB c).length ∧ ((bB c).length - 4) % 4 = 0) ⟨hf, by omega, by omega⟩
  · have e : bB c = b32 c.tsn ++ tB c.skips := by simp [bB, hk]
    have hf := fl_none (c := c) (by omega) (by omega) (by omega) (by omega)
    have hle : (bB c).length = 4 + c.skips.length * 8 := by rw [e]; simp only [List.length_append, b32_len, tB_len]
    rw [hk]
    exact decide_eq_true (p := fl c = 0 ∧ 4 ≤ (bB c).length ∧ ((bB c).length - 4) % 8 = 0 ∧ ∀ j, j < ((bB c).length - 4) / 8 → at2 (bB c) (6 + 8 * j) ≤ 1) ⟨hf, by omega, by omega, fun j hj => by rw [e]; exact tB_at _ _ _ (by omega)⟩
end Go.Proofs.Ytaifihoheieneaa.Chk
namespace Go.Proofs.Ytaifihoheieneaa.Chk
open Go.RowKit Go.Proofs.Ytaifihoheieneaa.Mem Go.Proofs.Ytaifihoheieneaa.Octet Go.Proofs.Ytaifihoheieneaa.Prm
set_option linter.unusedVariables false
set_option linter.unusedSimpArgs false
/-- The flags that a kind has. -/
def fOk (k f : Int) : Bool := if k = 0 ∨ k = 64 then decide (f < 8) else if k = 6 ∨ k = 14 then decide (f < 2) else decide (f = 0)
theorem rOk_fl {k f : Int} {xs : List Int} (h : rOk k f xs = true) (f' : Int) : rOk k f' xs = fOk k f' := by
  unfold rOk at h ⊢
  unfold fOk
  by_cases h0 : k = 0
  · subst h0
    rw [if_pos rfl] at h ⊢
    rw [if_pos (.inl rfl)]
    have := of_decide_eq_true h
    exact decide_eq_decide.2 ⟨fun h => h.1, fun h => ⟨h, this.2⟩⟩
  rw [if_neg h0] at h ⊢
  by_cases h64 : k = 64
  · subst h64
    rw [if_pos rfl] at h ⊢
    rw [if_pos (.inr rfl)]
    have := of_decide_eq_true h
    exact decide_eq_decide.2 ⟨fun h => h.1, fun h => ⟨h, this.2⟩⟩
  rw [if_neg h64] at h ⊢
  rw [if_neg (show ¬ (k = 0 ∨ k = 64) by omega)]
  by_cases h3 : k = 3
  · subst h3
    rw [if_pos rfl] at h ⊢
    rw [if_neg (by omega)]
    have := of_decide_eq_true h
    exact decide_eq_decide.2 ⟨fun h => h.1, fun h => ⟨h, this.2⟩⟩
  rw [if_neg h3] at h ⊢
  by_cases h4 : k = 4 ∨ k = 5 ∨ k = 10
  · rw [if_pos h4] at h ⊢
    rw [if_neg (by omega)]
  rw [if_neg h4] at h ⊢
  by_cases h7 : k = 7
  · subst h7
    rw [if_pos rfl] at h ⊢
    rw [if_neg (by omega)]
    have := of_decide_eq_true h
    exact decide_eq_decide.2 ⟨fun h => h.1, fun h => ⟨h, this.2⟩⟩
  rw [if_neg h7] at h ⊢
  by_cases h192 : k = 192
  · subst h192
    rw [if_pos rfl] at h ⊢
    rw [if_neg (by omega)]
    have := of_decide_eq_true h
    exact decide_eq_decide.2 ⟨fun h => h.1, fun h => ⟨h, this.2⟩⟩
  rw [if_neg h192] at h ⊢
  by_cases h194 : k = 194
  · subst h194
    rw [if_pos rfl] at h ⊢
    rw [if_neg (by omega)]
    have := of_decide_eq_true h
    exact decide_eq_decide.2 ⟨fun h => h.1, fun h => ⟨h, this.2⟩⟩
  rw [if_neg h194] at h ⊢
  by_cases h12 : k = 1 ∨ k = 2
  · rw [if_pos h12] at h ⊢
    rw [if_neg (by omega)]
    have := of_decide_eq_true h
    exact decide_eq_decide.2 ⟨fun h => h.1, fun h => ⟨h, this.2⟩⟩
  rw [if_neg h12] at h ⊢
  by_cases h6 : k = 6
  · subst h6
    rw [if_pos rfl] at h ⊢
    rw [if_pos (.inl rfl)]
    have := of_decide_eq_true h
    exact decide_eq_decide.2 ⟨fun h => h.1, fun h => ⟨h, this.2⟩⟩
  rw [if_neg h6] at h ⊢
  by_cases h14 : k = 14
  · subst h14
    rw [if_pos rfl] at h ⊢
    rw [if_pos (.inr rfl)]
    have := of_decide_eq_true h
    exact decide_eq_decide.2 ⟨fun h => h.1, fun h => ⟨h, this.2⟩⟩
  rw [if_neg h14] at h ⊢
  rw [if_neg (show ¬ (k = 6 ∨ k = 14) by omega)]
  by_cases h9 : k = 9 ∨ k = 130
  · rw [if_pos h9] at h ⊢
    have := of_decide_eq_true h
    exact decide_eq_decide.2 ⟨fun h => h.1, fun h => ⟨h, this.2⟩⟩
  rw [if_neg h9] at h ⊢
  have := of_decide_eq_true h
  exact decide_eq_decide.2 ⟨fun h => h.1, fun h => ⟨h, this.2⟩⟩
/-- What stands at the head of bytes with a chunk's head, with any behind them. -/
theorem zz_head {k f : Int} {xs : List Int} (hk : 0 ≤ k ∧ k < 256) (hf : 0 ≤ f ∧ f < 256) (hl : xs.length + 4 ≤ 65535) (more : List Int) : at1 (zz k f xs ++ more) 0 = k ∧ at1 (zz k f xs ++ more) 1 = f ∧ gL (zz k f xs ++ more) = xs.length + 4 ∧ gI (zz k f xs ++ more) = xs := by
  have hn := zz_n (k := k) (f := f) (xs := xs) (more := more) hl
  have hg : gL (zz k f xs ++ more) = xs.length + 4 := by unfold gL; rw [hn]; omega
  refine ⟨zz_k hk, zz_f hf, hg, ?_⟩
  unfold gI
  rw [hg]
  exact zz_body _ _ _ _
theorem zz_got {k f : Int} {xs : List Int} (hkn : kn k = true) (hk : 0 ≤ k ∧ k < 256) (hf : 0 ≤ f ∧ f < 256) (hl : xs.length + 4 ≤ 65535) (more : List Int) : gE (zz k f xs ++ more) = if rOk k f xs = false then 42 else 0 := by
  obtain ⟨e1, e2, e3, e4⟩ := zz_head hk hf hl more
  have hl' := zz_len k f xs
  have ha : xs.length + 4 ≤ all (xs.length + 4) := by unfold all; omega
  rw [gE_6 (by rw [List.length_append, hl']; omega) (by rw [e3]; omega) (by rw [e3, List.length_append, hl']; omega) (by rw [e3, zz_pad]; exact rep_any _) (by rw [e1]; exact hkn), e1, e2, e4]
theorem zz_ck {k f : Int} {xs : List Int} (hkn : kn k = true) (hk : 0 ≤ k ∧ k < 256) (hf : 0 ≤ f ∧ f < 256) (hl : xs.length + 4 ≤ 65535) (more : List Int) (hok : rOk k f xs = true) : gN (zz k f xs ++ more) = (zz k f xs).length ∧ gCk (zz k f xs ++ more) = rC k f xs := by
  obtain ⟨e1, e2, e3, e4⟩ := zz_head hk hf hl more
  have hg : gE (zz k f xs ++ more) = 0 := by rw [zz_got hkn hk hf hl, hok]; rfl
  unfold gN gCk
  rw [if_pos hg, if_pos hg, e1, e2, e3, e4, zz_len]
  exact ⟨rfl, rfl⟩
/-- A chunk without the fields that its kind hasn't. -/
def strip (c : Ck) : Ck :=
  if c.k = 0 then { zC c.k with e := c.e, b := c.b, l := c.l, tsn := c.tsn, st := c.st, mid := c.mid % 65536, pp := c.pp, body := c.body }
  else if c.k = 64 then { zC c.k with e := c.e, b := c.b, l := c.l, tsn := c.tsn, st := c.st, mid := c.mid, pp := (if c.b then c.pp else 0), fr := (if c.b then 0 else c.fr), body := c.body }
  else if c.k = 3 then { zC c.k with tsn := c.tsn, win := c.win, gaps := c.gaps, dups := c.dups }
  else if c.k = 4 ∨ c.k = 5 ∨ c.k = 10 then { zC c.k with body := c.body }
  else if c.k = 7 then { zC c.k with tsn := c.tsn }
  else if c.k = 192 then { zC c.k with tsn := c.tsn, skips := c.skips.map fun s => (s.1, false, s.2.2 % 65536) }
  else if c.k = 194 then { zC c.k with tsn := c.tsn, skips := c.skips }
  else if c.k = 1 ∨ c.k = 2 then { zC c.k with tag := c.tag, win := c.win, out := c.out, inn := c.inn, tsn := c.tsn, ps := c.ps }
  else if c.k = 6 then { zC c.k with r := c.r, ps := c.ps }
  else if c.k = 14 then { zC c.k with r := c.r }
  else if c.k = 9 ∨ c.k = 130 then { zC c.k with ps := c.ps }
  else zC c.k
theorem fl3 (e b l : Bool) : flE (bt e 1 + bt b 2 + bt l 4) = e ∧ flB (bt e 1 + bt b 2 + bt l 4) = b ∧ flL (bt e 1 + bt b 2 + bt l 4) = l := by
  cases e <;> cases b <;> cases l <;> decide
theorem fl1 (e : Bool) : flE (bt e 1) = e := by cases e <;> decide
theorem gB_app (a b : List (Int × Int)) : gB (a ++ b) = gB a ++ gB b := by unfold gB; rw [List.flatMap_append]
theorem dB_app (a b : List Int) : dB (a ++ b) = dB a ++ dB b := by unfold dB; rw [List.flatMap_append]
theorem sB_app (a b : List (Int × Bool × Int)) : sB (a ++ b) = sB a ++ sB b := by unfold sB; rw [List.flatMap_append]
theorem tB_app (a b : List (Int × Bool × Int)) : tB (a ++ b) = tB a ++ tB b := by unfold tB; rw [List.flatMap_append]
theorem gB_at (gs : List (Int × Int)) (j : Nat) (hj : j < gs.length) : gB gs = gB (gs.take j) ++ (b16 gs[j].1 ++ (b16 gs[j].2 ++ gB (gs.drop (j + 1)))) := by
  conv => lhs; rw [← List.take_append_drop (j + 1) gs, gB_app, gB_take gs j hj]
  simp only [List.append_assoc]
theorem dB_at (gs : List Int) (j : Nat) (hj : j < gs.length) : dB gs = dB (gs.take j) ++ (b32 gs[j] ++ dB (gs.drop (j + 1))) := by
  conv => lhs; rw [← List.take_append_drop (j + 1) gs, dB_app, dB_take gs j hj]
  simp only [List.append_assoc]
theorem sB_at (gs : List (Int × Bool × Int)) (j : Nat) (hj : j < gs.length) : sB gs = sB (gs.take j) ++ (b16 gs[j].1 ++ (b16 (gs[j].2.2 % 65536) ++ sB (gs.drop (j + 1)))) := by
  conv => lhs; rw [← List.take_append_drop (j + 1) gs, sB_app, sB_take gs j hj]
  simp only [List.append_assoc]
theorem tB_split (gs : List (Int × Bool × Int)) (j : Nat) (hj : j < gs.length) : tB gs = tB (gs.take j) ++ (b16 gs[j].1 ++ (b16 (bt gs[j].2.1 1) ++ (b32 gs[j].2.2 ++ tB (gs.drop (j + 1))))) := by
  conv => lhs; rw [← List.take_append_drop (j + 1) gs, tB_app, tB_take gs j hj]
  simp only [List.append_assoc]
theorem gaps_of {pre ys : List Int} {m : Nat} (hm : pre.length = m) {gs : List (Int × Int)} (hg : ∀ g ∈ gs, (0 ≤ g.1 ∧ g.1 < 65536) ∧ 0 ≤ g.2 ∧ g.2 < 65536) : gapsAt (pre ++ (gB gs ++ ys)) m gs.length = gs := by
  unfold gapsAt
  apply List.ext_getElem (by simp)
  intro j h1 h2
  have hj : j < gs.length := h2
  have hr := hg _ (List.getElem_mem hj)
  have e : pre ++ (gB gs ++ ys) = (pre ++ gB (gs.take j)) ++ (b16 gs[j].1 ++ (b16 gs[j].2 ++ (gB (gs.drop (j + 1)) ++ ys))) := by rw [gB_at gs j hj]; simp only [List.append_assoc]
  have e2 : pre ++ (gB gs ++ ys) = (pre ++ (gB (gs.take j) ++ b16 gs[j].1)) ++ (b16 gs[j].2 ++ (gB (gs.drop (j + 1)) ++ ys)) := by rw [e]; simp only [List.append_assoc]
  have k1 := at2_app (pre := pre ++ gB (gs.take j)) (x := gs[j].1) (ys := b16 gs[j].2 ++ (gB (gs.drop (j + 1)) ++ ys)) (m := m + 4 * j) (by rw [List.length_append, gB_len, List.length_take]; omega) hr.1
  have k2 := at2_app (pre := pre ++ (gB (gs.take j) ++ b16 gs[j].1)) (x := gs[j].2) (ys := gB (gs.drop (j + 1)) ++ ys) (m := m + 4 * j + 2) (by rw [List.length_append, List.length_append, gB_len, b16_len, List.length_take]; omega) hr.2
  rw [List.getElem_map, List.getElem_range]
  rw [← e] at k1
  rw [← e2] at k2
  rw [k1, k2]
theorem dups_of {pre : List Int} {m : Nat} (hm : pre.length = m) {gs : List Int} (hg : ∀ g ∈ gs, 0 ≤ g ∧ g < 4294967296) : dupsAt (pre ++ dB gs) m gs.length = gs := by
  unfold dupsAt
  apply List.ext_getElem (by simp)
  intro j h1 h2
  have hj : j < gs.length := h2
  have hr := hg _ (List.getElem_mem hj)
  have e : pre ++ dB gs = (pre ++ dB (gs.take j)) ++ (b32 gs[j] ++ dB (gs.drop (j + 1))) := by rw [dB_at gs j hj]; simp only [List.append_assoc]
  have k1 := at4_app (pre := pre ++ dB (gs.take j)) (x := gs[j]) (ys := dB (gs.drop (j + 1))) (m := m + 4 * j) (by rw [List.length_append, dB_len, List.length_take]; omega) hr
  rw [List.getElem_map, List.getElem_range]
  rw [← e] at k1
  rw [k1]
theorem skips_of {t : Int} {gs : List (Int × Bool × Int)} (hg : ∀ g ∈ gs, (0 ≤ g.1 ∧ g.1 < 65536) ∧ 0 ≤ g.2.2 ∧ g.2.2 < 4294967296) : skipsAt (b32 t ++ sB gs) gs.length = gs.map fun s => (s.1, false, s.2.2 % 65536) := by
  unfold skipsAt
  apply List.ext_getElem (by simp)
  intro j h1 h2
  have hj : j < gs.length := by simpa using h2
  have hr := hg _ (List.getElem_mem hj)
  have e : b32 t ++ sB gs = (b32 t ++ sB (gs.take j)) ++ (b16 gs[j].1 ++ (b16 (gs[j].2.2 % 65536) ++ sB (gs.drop (j + 1)))) := by rw [sB_at gs j hj]; simp only [List.append_assoc]
  have e2 : b32 t ++ sB gs = (b32 t ++ (sB (gs.take j) ++ b16 gs[j].1)) ++ (b16 (gs[j].2.2 % 65536) ++ sB (gs.drop (j + 1))) := by rw [e]; simp only [List.append_assoc]
  have k1 := at2_app (pre := b32 t ++ sB (gs.take j)) (x := gs[j].1) (ys := b16 (gs[j].2.2 % 65536) ++ sB (gs.drop (j + 1))) (m := 4 + 4 * j) (by rw [List.length_append, sB_len, b32_len, List.length_take]; omega) hr.1
  have k2 := at2_app (pre := b32 t ++ (sB (gs.take j) ++ b16 gs[j].1)) (x := gs[j].2.2 % 65536) (ys := sB (gs.drop (j + 1))) (m := 4 + 4 * j + 2) (by rw [List.length_append, List.length_append, sB_len, b16_len, b32_len, List.length_take]; omega) (by omega)
  rw [List.getElem_map, List.getElem_range, List.getElem_map]
  rw [← e] at k1
  rw [← e2] at k2
  rw [k1, k2]
theorem bt_eq (l : Bool) : (bt l 1 == 1) = l := by cases l <;> decide
theorem skips_it {t : Int} {gs : List (Int × Bool × Int)} (hg : ∀ g ∈ gs, (0 ≤ g.1 ∧ g.1 < 65536) ∧ 0 ≤ g.2.2 ∧ g.2.2 < 4294967296) : skipsIt (b32 t ++ tB gs) gs.length = gs := by
  unfold skipsIt
  apply List.ext_getElem (by simp)
  intro j h1 h2
  have hj : j < gs.length := by simpa using h2
  have hr := hg _ (List.getElem_mem hj)
  have hb := bt_rng1 gs[j].2.1 1 (by omega)
  have e : b32 t ++ tB gs = (b32 t ++ tB (gs.take j)) ++ (b16 gs[j].1 ++ (b16 (bt gs[j].2.1 1) ++ (b32 gs[j].2.2 ++ tB (gs.drop (j + 1))))) := by rw [tB_split gs j hj]; simp only [List.append_assoc]
  have e2 : b32 t ++ tB gs = (b32 t ++ (tB (gs.take j) ++ b16 gs[j].1)) ++ (b16 (bt gs[j].2.1 1) ++ (b32 gs[j].2.2 ++ tB (gs.drop (j + 1)))) := by rw [e]; simp only [List.append_assoc]
  have e3 : b32 t ++ tB gs = (b32 t ++ (tB (gs.take j) ++ (b16 gs[j].1 ++ b16 (bt gs[j].2.1 1)))) ++ (b32 gs[j].2.2 ++ tB (gs.drop (j + 1))) := by rw [e]; simp only [List.append_assoc]
  have k1 := at2_app (pre := b32 t ++ tB (gs.take j)) (x := gs[j].1) (ys := b16 (bt gs[j].2.1 1) ++ (b32 gs[j].2.2 ++ tB (gs.drop (j + 1)))) (m := 4 + 8 * j) (by rw [List.length_append, tB_len, b32_len, List.length_take]; omega) hr.1
  have k2 := at2_app (pre := b32 t ++ (tB (gs.take j) ++ b16 gs[j].1)) (x := bt gs[j].2.1 1) (ys := b32 gs[j].2.2 ++ tB (gs.drop (j + 1))) (m := 4 + 8 * j + 2) (by rw [List.length_append, List.length_append, tB_len, b16_len, b32_len, List.length_take]; omega) (by omega)
  have k3 := at4_app (pre := b32 t ++ (tB (gs.take j) ++ (b16 gs[j].1 ++ b16 (bt gs[j].2.1 1)))) (x := gs[j].2.2) (ys := tB (gs.drop (j + 1))) (m := 4 + 8 * j + 4) (by simp only [List.length_append, tB_len, b16_len, b32_len, List.length_take]; omega) hr.2
  rw [List.getElem_map, List.getElem_range]
  rw [← e] at k1
  rw [← e2] at k2
  rw [← e3] at k3
  rw [k1, k2, k3, bt_eq]
theorem at2_top {pre ys : List Int} {x : Int} {m : Nat} {xs : List Int} (e : xs = pre ++ (b16 x ++ ys)) (hm : pre.length = m) (hx : 0 ≤ x ∧ x < 65536) : at2 xs m = x := by rw [e]; exact at2_app hm hx
theorem at4_top {pre ys : List Int} {x : Int} {m : Nat} {xs : List Int} (e : xs = pre ++ (b32 x ++ ys)) (hm : pre.length = m) (hx : 0 ≤ x ∧ x < 4294967296) : at4 xs m = x := by rw [e]; exact at4_app hm hx
theorem fl_data {c : Ck} (h : c.k = 0 ∨ c.k = 64) : fl c = bt c.e 1 + bt c.b 2 + bt c.l 4 := by unfold fl; rw [if_pos h]
theorem got_ck {c : Ck} (hB : CkB c) (hE : cE c = 0) : rC c.k (fl c) (bB c) = strip c := by
  obtain ⟨hk, hb, hl⟩ := cE_parts hE
  simp [kn] at hk
  rcases hk with hk | hk | hk | hk | hk | hk | hk | hk | hk | hk | hk | hk | hk | hk | hk | hk | hk
  · have e : bB c = b32 c.tsn ++ (b16 c.st ++ (b16 (c.mid % 65536) ++ (b32 c.pp ++ c.body))) := by simp [bB, hk]
    obtain ⟨f1, f2, f3⟩ := fl3 c.e c.b c.l
    have a0 := at4_top (pre := []) (m := 0) e rfl hB.tsn
    have a4 := at2_top (pre := b32 c.tsn) (m := 4) e rfl hB.st
    have a6 := at2_top (pre := b32 c.tsn ++ b16 c.st) (m := 6) (xs := bB c) (x := c.mid % 65536) (ys := b32 c.pp ++ c.body) (by rw [e]; simp only [List.append_assoc]) rfl (by omega)
    have a8 := at4_top (pre := b32 c.tsn ++ (b16 c.st ++ b16 (c.mid % 65536))) (m := 8) (xs := bB c) (x := c.pp) (ys := c.body) (by rw [e]; simp only [List.append_assoc]) rfl hB.pp
    have a12 : (bB c).drop 12 = c.body := by rw [e]; rfl
    unfold rC strip
    rw [if_pos hk, if_pos hk, fl_data (.inl hk), f1, f2, f3, a0, a4, a6, a8, a12]
  · have e : bB c = b32 c.tag ++ (b32 c.win ++ (b16 c.out ++ (b16 c.inn ++ (b32 c.tsn ++ enc c.ps)))) := by simp [bB, hk]
    have hd := dec_put hB hb (by omega)
    have a0 := at4_top (pre := []) (m := 0) e rfl hB.tag
    have a4 := at4_top (pre := b32 c.tag) (m := 4) e rfl hB.win
    have a8 := at2_top (pre := b32 c.tag ++ b32 c.win) (m := 8) (xs := bB c) (x := c.out) (ys := b16 c.inn ++ (b32 c.tsn ++ enc c.ps)) (by rw [e]; simp only [List.append_assoc]) rfl hB.out
    have a10 := at2_top (pre := b32 c.tag ++ (b32 c.win ++ b16 c.out)) (m := 10) (xs := bB c) (x := c.inn) (ys := b32 c.tsn ++ enc c.ps) (by rw [e]; simp only [List.append_assoc]) rfl hB.inn
    have a12 := at4_top (pre := b32 c.tag ++ (b32 c.win ++ (b16 c.out ++ b16 c.inn))) (m := 12) (xs := bB c) (x := c.tsn) (ys := enc c.ps) (by rw [e]; simp only [List.append_assoc]) rfl hB.tsn
    have a16 : (bB c).drop 16 = enc c.ps := by rw [e]; rfl
    unfold rC strip
    rw [a0, a4, a8, a10, a12, a16, hd]
    simp [hk]
  · have e : bB c = b32 c.tag ++ (b32 c.win ++ (b16 c.out ++ (b16 c.inn ++ (b32 c.tsn ++ enc c.ps)))) := by simp [bB, hk]
    have hd := dec_put hB hb (by omega)
    have a0 := at4_top (pre := []) (m := 0) e rfl hB.tag
    have a4 := at4_top (pre := b32 c.tag) (m := 4) e rfl hB.win
    have a8 := at2_top (pre := b32 c.tag ++ b32 c.win) (m := 8) (xs := bB c) (x := c.out) (ys := b16 c.inn ++ (b32 c.tsn ++ enc c.ps)) (by rw [e]; simp only [List.append_assoc]) rfl hB.out
    have a10 := at2_top (pre := b32 c.tag ++ (b32 c.win ++ b16 c.out)) (m := 10) (xs := bB c) (x := c.inn) (ys := b32 c.tsn ++ enc c.ps) (by rw [e]; simp only [List.append_assoc]) rfl hB.inn
    have a12 := at4_top (pre := b32 c.tag ++ (b32 c.win ++ (b16 c.out ++ b16 c.inn))) (m := 12) (xs := bB c) (x := c.tsn) (ys := enc c.ps) (by rw [e]; simp only [List.append_assoc]) rfl hB.tsn
    have a16 : (bB c).drop 16 = enc c.ps := by rw [e]; rfl
    unfold rC strip
    rw [a0, a4, a8, a10, a12, a16, hd]
    simp [hk]
  · have e : bB c = b32 c.tsn ++ (b32 c.win ++ (b16 c.gaps.length ++ (b16 c.dups.length ++ (gB c.gaps ++ dB c.dups)))) := by simp [bB, hk]
    have hgd : ¬ (65535 < c.gaps.length ∨ 65535 < c.dups.length) := by intro h; unfold bE at hb; rw [if_neg (by omega), if_pos hk, if_pos h] at hb; cases hb
    have a0 := at4_top (pre := []) (m := 0) e rfl hB.tsn
    have a4 := at4_top (pre := b32 c.tsn) (m := 4) e rfl hB.win
    have a8 := at2_top (pre := b32 c.tsn ++ b32 c.win) (m := 8) (xs := bB c) (x := (c.gaps.length : Int)) (ys := b16 c.dups.length ++ (gB c.gaps ++ dB c.dups)) (by rw [e]; simp only [List.append_assoc]) rfl (by omega)
    have a10 := at2_top (pre := b32 c.tsn ++ (b32 c.win ++ b16 c.gaps.length)) (m := 10) (xs := bB c) (x := (c.dups.length : Int)) (ys := gB c.gaps ++ dB c.dups) (by rw [e]; simp only [List.append_assoc]) rfl (by omega)
    have ag := gaps_of (pre := b32 c.tsn ++ (b32 c.win ++ (b16 c.gaps.length ++ b16 c.dups.length))) (ys := dB c.dups) (m := 12) rfl hB.gaps
    have ad := dups_of (pre := b32 c.tsn ++ (b32 c.win ++ (b16 c.gaps.length ++ (b16 c.dups.length ++ gB c.gaps)))) (m := 12 + 4 * c.gaps.length) (by simp only [List.length_append, b32_len, b16_len, gB_len]; omega) hB.dups
    have eg : b32 c.tsn ++ (b32 c.win ++ (b16 c.gaps.length ++ b16 c.dups.length)) ++ (gB c.gaps ++ dB c.dups) = bB c := by rw [e]; simp only [List.append_assoc]
    have ed : b32 c.tsn ++ (b32 c.win ++ (b16 c.gaps.length ++ (b16 c.dups.length ++ gB c.gaps))) ++ dB c.dups = bB c := by rw [e]; simp only [List.append_assoc]
    rw [eg] at ag
    rw [ed] at ad
    unfold rC strip
    rw [a0, a4, a8, a10, Int.toNat_natCast, Int.toNat_natCast, ag, ad]
    simp [hk]
  · have e : bB c = c.body := by simp [bB, hk]
    unfold rC strip
    rw [e]
    simp [hk]
  · have e : bB c = c.body := by simp [bB, hk]
    unfold rC strip
    rw [e]
    simp [hk]
  · have e : bB c = enc c.ps := by simp [bB, hk]
    have hd := dec_put hB hb (by omega)
    have f1 := fl1 c.r
    unfold rC strip
    rw [e, hd, fl_bare (.inl hk), f1]
    simp [hk]
  · have e : bB c = b32 c.tsn ++ [] := by simp [bB, hk]
    have a0 := at4_top (pre := []) (m := 0) e rfl hB.tsn
    unfold rC strip
    rw [a0]
    simp [hk]
  · unfold rC strip
    simp [hk]
  · have e : bB c = enc c.ps := by simp [bB, hk]
    have hd := dec_put hB hb (by omega)
    unfold rC strip
    rw [e, hd]
    simp [hk]
  · have e : bB c = c.body := by simp [bB, hk]
    unfold rC strip
    rw [e]
    simp [hk]
  · unfold rC strip
    simp [hk]
  · have f1 := fl1 c.r
    unfold rC strip
    rw [fl_bare (.inr hk), f1]
    simp [hk]
  · have e : bB c = b32 c.tsn ++ (b16 c.st ++ (b16 0 ++ (b32 c.mid ++ (b32 (if c.b then c.pp else c.fr) ++ c.body)))) := by simp [bB, hk]
    obtain ⟨f1, f2, f3⟩ := fl3 c.e c.b c.l
    have a0 := at4_top (pre := []) (m := 0) e rfl hB.tsn
    have a4 := at2_top (pre := b32 c.tsn) (m := 4) e rfl hB.st
    have a8 := at4_top (pre := b32 c.tsn ++ (b16 c.st ++ b16 0)) (m := 8) (xs := bB c) (x := c.mid) (ys := b32 (if c.b then c.pp else c.fr) ++ c.body) (by rw [e]; simp only [List.append_assoc]) rfl hB.mid
    have a12 := at4_top (pre := b32 c.tsn ++ (b16 c.st ++ (b16 0 ++ b32 c.mid))) (m := 12) (xs := bB c) (x := if c.b then c.pp else c.fr) (ys := c.body) (by rw [e]; simp only [List.append_assoc]) rfl (by have h1 := hB.pp; have h2 := hB.fr; split <;> assumption)
    have a16 : (bB c).drop 16 = c.body := by rw [e]; rfl
    unfold rC strip
    rw [fl_data (.inr hk), f1, f2, f3, a0, a4, a8, a12, a16]
    cases c.b <;> simp [hk]
  · have e : bB c = enc c.ps := by simp [bB, hk]
    have hd := dec_put hB hb (by omega)
    unfold rC strip
    rw [e, hd]
    simp [hk]
  · have e : bB c = b32 c.tsn ++ sB c.skips := by simp [bB, hk]
    have a0 := at4_top (pre := []) (m := 0) e rfl hB.tsn
    have hle : ((bB c).length - 4) / 4 = c.skips.length := by rw [e]; simp only [List.length_append, b32_len, sB_len]; omega
    have hss := skips_of (t := c.tsn) hB.skips
    rw [← e] at hss
    unfold rC strip
    rw [a0, hle, hss]
    simp [hk]
  · have e : bB c = b32 c.tsn ++ tB c.skips := by simp [bB, hk]
    have a0 := at4_top (pre := []) (m := 0) e rfl hB.tsn
    have hle : ((bB c).length - 4) / 8 = c.skips.length := by rw [e]; simp only [List.length_append, b32_len, tB_len]; omega
    have hss := skips_it (t := c.tsn) hB.skips
    rw [← e] at hss
    unfold rC strip
    rw [a0, hle, hss]
    simp [hk]
theorem strip_k (c : Ck) : (strip c).k = c.k := by
  unfold strip
  simp only [apply_ite Ck.k, zC, ite_self]
theorem rC_k (k f : Int) (xs : List Int) : (rC k f xs).k = k := by
  unfold rC
  simp only [apply_ite Ck.k, zC, ite_self]
end Go.Proofs.Ytaifihoheieneaa.Chk
namespace Go.Proofs.Ytaifihoheieneaa.Chk
open Go.RowKit Go.Proofs.Ytaifihoheieneaa.Mem Go.Proofs.Ytaifihoheieneaa.Octet Go.Proofs.Ytaifihoheieneaa.Prm
set_option linter.unusedVariables false
set_option linter.unusedSimpArgs false
/-- What ChunkBare sets. -/
def bare (c o : Ck) : Ck :=
  if c.k = 7 then { c with st := o.st, body := o.body, gaps := o.gaps, r := o.r }
  else if c.k = 11 ∨ c.k = 8 then { c with tsn := o.tsn, ps := o.ps, b := o.b }
  else if c.k = 0 ∨ c.k = 64 then { c with win := o.win, skips := o.skips, dups := o.dups }
  else if c.k = 3 then { c with body := o.body, skips := o.skips, l := o.l }
  else { c with gaps := o.gaps, dups := o.dups, st := o.st, pp := o.pp }
theorem sB_strip (ss : List (Int × Bool × Int)) : sB (ss.map fun s => (s.1, false, s.2.2 % 65536)) = sB ss := by
  induction ss with
  | nil => rfl
  | cons s ss ih =>
    show b16 s.1 ++ b16 (s.2.2 % 65536 % 65536) ++ sB (ss.map fun s => (s.1, false, s.2.2 % 65536)) = b16 s.1 ++ b16 (s.2.2 % 65536) ++ sB ss
    rw [ih, Int.emod_emod_of_dvd _ (Int.dvd_refl _)]
theorem bare_strip {c o : Ck} (hk : kn c.k = true) : (bare (strip c) o).k = c.k ∧ fl (bare (strip c) o) = fl c ∧ bB (bare (strip c) o) = bB c ∧ bE (bare (strip c) o) = bE c := by
  simp [kn] at hk
  have hs := strip_k c
  have hm : c.mid % 65536 % 65536 = c.mid % 65536 := Int.emod_emod_of_dvd _ (Int.dvd_refl _)
  rcases hk with hk | hk | hk | hk | hk | hk | hk | hk | hk | hk | hk | hk | hk | hk | hk | hk | hk
  all_goals
    rw [hk] at hs
    unfold bare
    rw [hs]
    simp [strip, hk, fl, bB, bE, zC, sB_strip, hm]
  all_goals (cases c.b <;> simp)
theorem bare_same {c o : Ck} (hE : cE c = 0) : cB (bare (strip c) o) = cB c ∧ cE (bare (strip c) o) = 0 := by
  obtain ⟨hk, _, _⟩ := cE_parts hE
  obtain ⟨e1, e2, e3, e4⟩ := bare_strip (o := o) hk
  refine ⟨by unfold cB; rw [e1, e2, e3], ?_⟩
  unfold cE at hE ⊢
  rw [e1, e3, e4]
  exact hE
theorem strip_b {c : Ck} (h : CkB c) : CkB (strip c) := by
  have z3 : 0 ≤ (0 : Int) ∧ (0 : Int) < 4294967296 := by decide
  have z1 : 0 ≤ (0 : Int) ∧ (0 : Int) < 65536 := by decide
  have z : CkB (zC c.k) := ⟨h.k, z3, z1, z3, z3, z3, z3, z3, z1, z1, fun _ h => absurd h List.not_mem_nil, fun _ h => absurd h List.not_mem_nil, fun _ h => absurd h List.not_mem_nil, fun _ h => absurd h List.not_mem_nil, fun _ h => absurd h List.not_mem_nil⟩
  unfold strip
  by_cases h0_ : c.k = 0
  · rw [if_pos h0_]
    exact { z with tsn := h.tsn, st := h.st, mid := by show 0 ≤ c.mid % 65536 ∧ c.mid % 65536 < 4294967296; omega, pp := h.pp, body := h.body }
  rw [if_neg h0_]
  by_cases h1_ : c.k = 64
  · rw [if_pos h1_]
    exact { z with tsn := h.tsn, st := h.st, mid := h.mid, pp := by have := h.pp; show 0 ≤ (if c.b then c.pp else 0) ∧ (if c.b then c.pp else 0) < 4294967296; split <;> omega, fr := by have := h.fr; show 0 ≤ (if c.b then 0 else c.fr) ∧ (if c.b then 0 else c.fr) < 4294967296; split <;> omega, body := h.body }
  rw [if_neg h1_]
  by_cases h2_ : c.k = 3
  · rw [if_pos h2_]
    exact { z with tsn := h.tsn, win := h.win, gaps := h.gaps, dups := h.dups }
  rw [if_neg h2_]
  by_cases h3_ : c.k = 4 ∨ c.k = 5 ∨ c.k = 10
  · rw [if_pos h3_]
    exact { z with body := h.body }
  rw [if_neg h3_]
  by_cases h4_ : c.k = 7
  · rw [if_pos h4_]
    exact { z with tsn := h.tsn }
  rw [if_neg h4_]
  by_cases h5_ : c.k = 192
  · rw [if_pos h5_]
    refine { z with tsn := h.tsn, skips := ?_ }
    intro g hg
    obtain ⟨s, hs, rfl⟩ := List.mem_map.1 hg
    have := h.skips s hs
    exact ⟨this.1, by show 0 ≤ s.2.2 % 65536 ∧ s.2.2 % 65536 < 4294967296; omega⟩
  rw [if_neg h5_]
  by_cases h6_ : c.k = 194
  · rw [if_pos h6_]
    exact { z with tsn := h.tsn, skips := h.skips }
  rw [if_neg h6_]
  by_cases h7_ : c.k = 1 ∨ c.k = 2
  · rw [if_pos h7_]
    exact { z with tag := h.tag, win := h.win, out := h.out, inn := h.inn, tsn := h.tsn, ps := h.ps }
  rw [if_neg h7_]
  by_cases h8_ : c.k = 6
  · rw [if_pos h8_]
    exact { z with ps := h.ps }
  rw [if_neg h8_]
  by_cases h9_ : c.k = 14
  · rw [if_pos h9_]
    exact { z with k := h.k }
  rw [if_neg h9_]
  by_cases h10_ : c.k = 9 ∨ c.k = 130
  · rw [if_pos h10_]
    exact { z with ps := h.ps }
  rw [if_neg h10_]
  exact z
theorem bare_b {c o : Ck} (h : CkB c) (ho : CkB o) : CkB (bare c o) := by
  unfold bare
  by_cases h0_ : c.k = 7
  · rw [if_pos h0_]
    exact { h with st := ho.st, body := ho.body, gaps := ho.gaps }
  rw [if_neg h0_]
  by_cases h1_ : c.k = 11 ∨ c.k = 8
  · rw [if_pos h1_]
    exact { h with tsn := ho.tsn, ps := ho.ps }
  rw [if_neg h1_]
  by_cases h2_ : c.k = 0 ∨ c.k = 64
  · rw [if_pos h2_]
    exact { h with win := ho.win, skips := ho.skips, dups := ho.dups }
  rw [if_neg h2_]
  by_cases h3_ : c.k = 3
  · rw [if_pos h3_]
    exact { h with body := ho.body, skips := ho.skips }
  rw [if_neg h3_]
  exact { h with gaps := ho.gaps, dups := ho.dups, st := ho.st, pp := ho.pp }
theorem strip_l {c : Ck} (h : CkL c) : CkL (strip c) := by
  have z : CkL (zC c.k) := ⟨by simp [zC], by simp [zC], by simp [zC], by simp [zC, enc], by simp [zC], by simp [zC]⟩
  unfold strip
  by_cases h0_ : c.k = 0
  · rw [if_pos h0_]
    exact { z with body := h.body }
  rw [if_neg h0_]
  by_cases h1_ : c.k = 64
  · rw [if_pos h1_]
    exact { z with body := h.body }
  rw [if_neg h1_]
  by_cases h2_ : c.k = 3
  · rw [if_pos h2_]
    exact { z with gaps := h.gaps, dups := h.dups }
  rw [if_neg h2_]
  by_cases h3_ : c.k = 4 ∨ c.k = 5 ∨ c.k = 10
  · rw [if_pos h3_]
    exact { z with body := h.body }
  rw [if_neg h3_]
  by_cases h4_ : c.k = 7
  · rw [if_pos h4_]
    exact { z with gaps := z.gaps }
  rw [if_neg h4_]
  by_cases h5_ : c.k = 192
  · rw [if_pos h5_]
    exact { z with skips := by show (c.skips.map _).length ≤ _; rw [List.length_map]; exact h.skips }
  rw [if_neg h5_]
  by_cases h6_ : c.k = 194
  · rw [if_pos h6_]
    exact { z with skips := h.skips }
  rw [if_neg h6_]
  by_cases h7_ : c.k = 1 ∨ c.k = 2
  · rw [if_pos h7_]
    exact { z with ps := h.ps, pl := h.pl }
  rw [if_neg h7_]
  by_cases h8_ : c.k = 6
  · rw [if_pos h8_]
    exact { z with ps := h.ps, pl := h.pl }
  rw [if_neg h8_]
  by_cases h9_ : c.k = 14
  · rw [if_pos h9_]
    exact { z with gaps := z.gaps }
  rw [if_neg h9_]
  by_cases h10_ : c.k = 9 ∨ c.k = 130
  · rw [if_pos h10_]
    exact { z with ps := h.ps, pl := h.pl }
  rw [if_neg h10_]
  exact z
theorem bare_l {c o : Ck} (h : CkL c) (ho : CkL o) : CkL (bare c o) := by
  unfold bare
  by_cases h0_ : c.k = 7
  · rw [if_pos h0_]
    exact { h with body := ho.body, gaps := ho.gaps }
  rw [if_neg h0_]
  by_cases h1_ : c.k = 11 ∨ c.k = 8
  · rw [if_pos h1_]
    exact { h with ps := ho.ps, pl := ho.pl }
  rw [if_neg h1_]
  by_cases h2_ : c.k = 0 ∨ c.k = 64
  · rw [if_pos h2_]
    exact { h with skips := ho.skips, dups := ho.dups }
  rw [if_neg h2_]
  by_cases h3_ : c.k = 3
  · rw [if_pos h3_]
    exact { h with body := ho.body, skips := ho.skips }
  rw [if_neg h3_]
  exact { h with gaps := ho.gaps, dups := ho.dups }
end Go.Proofs.Ytaifihoheieneaa.Chk
namespace Go.Proofs.Ytaifihoheieneaa.Chk
open Go.RowKit Go.Proofs.Ytaifihoheieneaa.Mem Go.Proofs.Ytaifihoheieneaa.Octet Go.Proofs.Ytaifihoheieneaa.Prm
set_option linter.unusedVariables false
set_option linter.unusedSimpArgs false
theorem num_two_ (a b : Int) (ha : 0 ≤ a ∧ a < 256) (hb : 0 ≤ b ∧ b < 256) : b16 (num [a, b]) = [a, b] := by
  have e : num [a, b] = 256 * a + b := by simp [num]; omega
  rw [e]; unfold b16
  congr 1
  · omega
  · congr 1; omega
theorem num_four_ (a b c d : Int) (ha : 0 ≤ a ∧ a < 256) (hb : 0 ≤ b ∧ b < 256) (hc : 0 ≤ c ∧ c < 256) (hd : 0 ≤ d ∧ d < 256) : b32 (num [a, b, c, d]) = [a, b, c, d] := by
  have e : num [a, b, c, d] = 16777216 * a + 65536 * b + 256 * c + d := by simp [num]; omega
  rw [e]; unfold b32
  congr 1
  · omega
  · congr 1
    · omega
    · congr 1
      · omega
      · congr 1; omega
theorem tk_in {xs : List Int} {n : Nat} (h : n ≤ xs.length) : tk xs n = xs.take n := by
  unfold tk
  rw [if_neg (by omega)]
  simp
theorem s16 {xs : List Int} (hB : IsB xs) {m : Nat} (h : m + 2 ≤ xs.length) : b16 (at2 xs m) ++ xs.drop (m + 2) = xs.drop m := by
  have e : xs.drop (m + 2) = (xs.drop m).drop 2 := by rw [List.drop_drop]
  have hl : 2 ≤ (xs.drop m).length := by rw [List.length_drop]; omega
  have hB' := isb_drop hB m
  unfold at2
  rw [e]
  generalize xs.drop m = ys at *
  match ys, hl with
  | a :: b :: ys, _ =>
    rw [show tk (a :: b :: ys) 2 = [a, b] from tk_in (xs := a :: b :: ys) (n := 2) (by simp)]
    show b16 (num [a, b]) ++ ys = _
    rw [num_two_ a b (hB' a (by simp)) (hB' b (by simp))]
    rfl
theorem s32 {xs : List Int} (hB : IsB xs) {m : Nat} (h : m + 4 ≤ xs.length) : b32 (at4 xs m) ++ xs.drop (m + 4) = xs.drop m := by
  have e : xs.drop (m + 4) = (xs.drop m).drop 4 := by rw [List.drop_drop]
  have hl : 4 ≤ (xs.drop m).length := by rw [List.length_drop]; omega
  have hB' := isb_drop hB m
  unfold at4
  rw [e]
  generalize xs.drop m = ys at *
  match ys, hl with
  | a :: b :: c :: d :: ys, _ =>
    rw [show tk (a :: b :: c :: d :: ys) 4 = [a, b, c, d] from tk_in (xs := a :: b :: c :: d :: ys) (n := 4) (by simp)]
    show b32 (num [a, b, c, d]) ++ ys = _
    rw [num_four_ a b c d (hB' a (by simp)) (hB' b (by simp)) (hB' c (by simp)) (hB' d (by simp))]
    rfl
theorem gaps_back {xs : List Int} (hB : IsB xs) (m : Nat) : ∀ n : Nat, m + 4 * n ≤ xs.length → gB (gapsAt xs m n) ++ xs.drop (m + 4 * n) = xs.drop m
  | 0, _ => by simp [gapsAt, gB]
  | n + 1, h => by
    have e : gapsAt xs m (n + 1) = gapsAt xs m n ++ [(at2 xs (m + 4 * n), at2 xs (m + 4 * n + 2))] := by unfold gapsAt; rw [List.range_succ, List.map_append]; rfl
    have e2 : gB [(at2 xs (m + 4 * n), at2 xs (m + 4 * n + 2))] = b16 (at2 xs (m + 4 * n)) ++ b16 (at2 xs (m + 4 * n + 2)) := by simp [gB]
    rw [e, gB_app, e2, List.append_assoc, List.append_assoc, show m + 4 * (n + 1) = m + 4 * n + 2 + 2 by omega, s16 hB (by omega), s16 hB (by omega)]
    exact gaps_back hB m n (by omega)
theorem dups_back {xs : List Int} (hB : IsB xs) (m : Nat) : ∀ n : Nat, m + 4 * n ≤ xs.length → dB (dupsAt xs m n) ++ xs.drop (m + 4 * n) = xs.drop m
  | 0, _ => by simp [dupsAt, dB]
  | n + 1, h => by
    have e : dupsAt xs m (n + 1) = dupsAt xs m n ++ [at4 xs (m + 4 * n)] := by unfold dupsAt; rw [List.range_succ, List.map_append]; rfl
    have e2 : dB [at4 xs (m + 4 * n)] = b32 (at4 xs (m + 4 * n)) := by simp [dB]
    rw [e, dB_app, e2, List.append_assoc, show m + 4 * (n + 1) = m + 4 * n + 4 by omega, s32 hB (by omega)]
    exact dups_back hB m n (by omega)
theorem skips_back {xs : List Int} (hB : IsB xs) : ∀ n : Nat, 4 + 4 * n ≤ xs.length → sB (skipsAt xs n) ++ xs.drop (4 + 4 * n) = xs.drop 4
  | 0, _ => by simp [skipsAt, sB]
  | n + 1, h => by
    have e : skipsAt xs (n + 1) = skipsAt xs n ++ [(at2 xs (4 + 4 * n), false, at2 xs (4 + 4 * n + 2))] := by unfold skipsAt; rw [List.range_succ, List.map_append]; rfl
    have hr := at2_rng hB (4 + 4 * n + 2)
    have e2 : sB [(at2 xs (4 + 4 * n), false, at2 xs (4 + 4 * n + 2))] = b16 (at2 xs (4 + 4 * n)) ++ b16 (at2 xs (4 + 4 * n + 2)) := by simp [sB]; congr 1; omega
    rw [e, sB_app, e2, List.append_assoc, List.append_assoc, show 4 + 4 * (n + 1) = 4 + 4 * n + 2 + 2 by omega, s16 hB (by omega), s16 hB (by omega)]
    exact skips_back hB n (by omega)
theorem skips_it_back {xs : List Int} (hB : IsB xs) : ∀ n : Nat, 4 + 8 * n ≤ xs.length → (∀ j, j < n → at2 xs (6 + 8 * j) ≤ 1) → tB (skipsIt xs n) ++ xs.drop (4 + 8 * n) = xs.drop 4
  | 0, _, _ => by simp [skipsIt, tB]
  | n + 1, h, hj => by
    have e : skipsIt xs (n + 1) = skipsIt xs n ++ [(at2 xs (4 + 8 * n), at2 xs (4 + 8 * n + 2) == 1, at4 xs (4 + 8 * n + 4))] := by unfold skipsIt; rw [List.range_succ, List.map_append]; rfl
    have hr := at2_rng hB (4 + 8 * n + 2)
    have h1 := hj n (by omega)
    rw [show 6 + 8 * n = 4 + 8 * n + 2 by omega] at h1
    have hb : bt (at2 xs (4 + 8 * n + 2) == 1) 1 = at2 xs (4 + 8 * n + 2) := by
      unfold bt
      by_cases h2 : at2 xs (4 + 8 * n + 2) = 1
      · rw [h2]; rfl
      · have : at2 xs (4 + 8 * n + 2) = 0 := by omega
        rw [this]; rfl
    have e2 : tB [(at2 xs (4 + 8 * n), at2 xs (4 + 8 * n + 2) == 1, at4 xs (4 + 8 * n + 4))] = b16 (at2 xs (4 + 8 * n)) ++ (b16 (at2 xs (4 + 8 * n + 2)) ++ b32 (at4 xs (4 + 8 * n + 4))) := by
      show b16 (at2 xs (4 + 8 * n)) ++ b16 (bt (at2 xs (4 + 8 * n + 2) == 1) 1) ++ b32 (at4 xs (4 + 8 * n + 4)) ++ [] = _
      rw [hb, List.append_nil, List.append_assoc]
    rw [e, tB_app, e2]
    simp only [List.append_assoc]
    rw [show 4 + 8 * (n + 1) = 4 + 8 * n + 4 + 4 by omega, s32 hB (by omega), show 4 + 8 * n + 4 = 4 + 8 * n + 2 + 2 by omega, s16 hB (by omega), s16 hB (by omega)]
    exact skips_it_back hB n (by omega) (fun j h => hj j (by omega))
theorem fl3_back {f : Int} (h : 0 ≤ f ∧ f < 8) : bt (flE f) 1 + bt (flB f) 2 + bt (flL f) 4 = f := by
  have : f = 0 ∨ f = 1 ∨ f = 2 ∨ f = 3 ∨ f = 4 ∨ f = 5 ∨ f = 6 ∨ f = 7 := by omega
  rcases this with rfl | rfl | rfl | rfl | rfl | rfl | rfl | rfl <;> decide
theorem fl1_back {f : Int} (h : 0 ≤ f ∧ f < 2) : bt (flE f) 1 = f := by
  have : f = 0 ∨ f = 1 := by omega
  rcases this with rfl | rfl <;> decide
theorem all_fit {ps : List Pm} (h : ∀ p ∈ ps, Fit p) : allFit ps = true := by
  unfold allFit
  rw [List.all_eq_true]
  intro p hp
  exact decide_eq_true (h p hp).2.2.2
/-- What was read is put as it was. -/
theorem rC_back {k f : Int} {xs : List Int} (hk : kn k = true) (hf : 0 ≤ f ∧ f < 256) (hB : IsB xs) (h : rOk k f xs = true) : fl (rC k f xs) = f ∧ bB (rC k f xs) = xs ∧ bE (rC k f xs) = 0 := by
  simp [kn] at hk
  have pr : ∀ ys, IsB ys → (dec ys).2 = 0 → enc (dec ys).1 = ys ∧ allFit (dec ys).1 = true := fun ys hy h => by
    obtain ⟨h1, h2⟩ := enc_dec ys.length ys (Nat.le_refl _) hy h
    exact ⟨h2, all_fit h1⟩
  rcases hk with rfl | rfl | rfl | rfl | rfl | rfl | rfl | rfl | rfl | rfl | rfl | rfl | rfl | rfl | rfl | rfl | rfl
  · have h := of_decide_eq_true (p := f < 8 ∧ 13 ≤ xs.length) h
    have e1 := s32 hB (m := 0) (by omega)
    have e2 := s16 hB (m := 4) (by omega)
    have e3 := s16 hB (m := 6) (by omega)
    have e4 := s32 hB (m := 8) (by omega)
    have r6 := at2_rng hB 6
    refine ⟨fl3_back (by omega), ?_, ?_⟩
    · show b32 (at4 xs 0) ++ b16 (at2 xs 4) ++ b16 (at2 xs 6 % 65536) ++ b32 (at4 xs 8) ++ xs.drop 12 = xs
      rw [show at2 xs 6 % 65536 = at2 xs 6 by omega]
      simp only [List.append_assoc]
      rw [e4, e3, e2, e1]
      rfl
    · show (if xs.drop 12 = [] then (42 : Int) else 0) = 0
      rw [if_neg (by intro e; have := congrArg List.length e; rw [List.length_drop] at this; simp at this; omega)]
  · have h := of_decide_eq_true (p := f = 0 ∧ 16 ≤ xs.length ∧ (dec (xs.drop 16)).2 = 0) h
    obtain ⟨p1, p2⟩ := pr _ (isb_drop hB 16) h.2.2
    have e1 := s32 hB (m := 0) (by omega)
    have e2 := s32 hB (m := 4) (by omega)
    have e3 := s16 hB (m := 8) (by omega)
    have e4 := s16 hB (m := 10) (by omega)
    have e5 := s32 hB (m := 12) (by omega)
    refine ⟨h.1.symm, ?_, ?_⟩
    · show b32 (at4 xs 0) ++ b32 (at4 xs 4) ++ b16 (at2 xs 8) ++ b16 (at2 xs 10) ++ b32 (at4 xs 12) ++ enc (dec (xs.drop 16)).1 = xs
      simp only [List.append_assoc]
      rw [p1, e5, e4, e3, e2, e1]
      rfl
    · show (if allFit (dec (xs.drop 16)).1 = true then (0 : Int) else 43) = 0
      rw [if_pos p2]
  · have h := of_decide_eq_true (p := f = 0 ∧ 16 ≤ xs.length ∧ (dec (xs.drop 16)).2 = 0) h
    obtain ⟨p1, p2⟩ := pr _ (isb_drop hB 16) h.2.2
    have e1 := s32 hB (m := 0) (by omega)
    have e2 := s32 hB (m := 4) (by omega)
    have e3 := s16 hB (m := 8) (by omega)
    have e4 := s16 hB (m := 10) (by omega)
    have e5 := s32 hB (m := 12) (by omega)
    refine ⟨h.1.symm, ?_, ?_⟩
    · show b32 (at4 xs 0) ++ b32 (at4 xs 4) ++ b16 (at2 xs 8) ++ b16 (at2 xs 10) ++ b32 (at4 xs 12) ++ enc (dec (xs.drop 16)).1 = xs
      simp only [List.append_assoc]
      rw [p1, e5, e4, e3, e2, e1]
      rfl
    · show (if allFit (dec (xs.drop 16)).1 = true then (0 : Int) else 43) = 0
      rw [if_pos p2]
  · have h := of_decide_eq_true (p := f = 0 ∧ 12 ≤ xs.length ∧ (xs.length : Int) = 12 + 4 * (at2 xs 8 + at2 xs 10)) h
    have r8 := at2_rng hB 8
    have r10 := at2_rng hB 10
    have e1 := s32 hB (m := 0) (by omega)
    have e2 := s32 hB (m := 4) (by omega)
    have e3 := s16 hB (m := 8) (by omega)
    have e4 := s16 hB (m := 10) (by omega)
    have e5 := gaps_back hB 12 (at2 xs 8).toNat (by omega)
    have e6 := dups_back hB (12 + 4 * (at2 xs 8).toNat) (at2 xs 10).toNat (by omega)
    have lg : (gapsAt xs 12 (at2 xs 8).toNat).length = (at2 xs 8).toNat := by simp [gapsAt]
    have ld : (dupsAt xs (12 + 4 * (at2 xs 8).toNat) (at2 xs 10).toNat).length = (at2 xs 10).toNat := by simp [dupsAt]
    have hend : xs.drop (12 + 4 * (at2 xs 8).toNat + 4 * (at2 xs 10).toNat) = [] := List.drop_eq_nil_of_le (by omega)
    rw [hend, List.append_nil] at e6
    refine ⟨h.1.symm, ?_, ?_⟩
    · show b32 (at4 xs 0) ++ b32 (at4 xs 4) ++ b16 ((gapsAt xs 12 (at2 xs 8).toNat).length : Nat) ++ b16 ((dupsAt xs (12 + 4 * (at2 xs 8).toNat) (at2 xs 10).toNat).length : Nat) ++ gB (gapsAt xs 12 (at2 xs 8).toNat) ++ dB (dupsAt xs (12 + 4 * (at2 xs 8).toNat) (at2 xs 10).toNat) = xs
      rw [lg, ld, Int.toNat_of_nonneg r8.1, Int.toNat_of_nonneg r10.1]
      simp only [List.append_assoc]
      rw [e6, e5, e4, e3, e2, e1]
      rfl
    · show (if 65535 < (gapsAt xs 12 (at2 xs 8).toNat).length ∨ 65535 < (dupsAt xs (12 + 4 * (at2 xs 8).toNat) (at2 xs 10).toNat).length then (43 : Int) else 0) = 0
      rw [lg, ld, if_neg (by omega)]
  · have h := of_decide_eq_true (p := f = 0) h
    exact ⟨h.symm, rfl, rfl⟩
  · have h := of_decide_eq_true (p := f = 0) h
    exact ⟨h.symm, rfl, rfl⟩
  · have h := of_decide_eq_true (p := f < 2 ∧ (dec xs).2 = 0) h
    obtain ⟨p1, p2⟩ := pr _ hB h.2
    refine ⟨fl1_back (by omega), p1, ?_⟩
    show (if allFit (dec xs).1 = true then (0 : Int) else 43) = 0
    rw [if_pos p2]
  · have h := of_decide_eq_true (p := f = 0 ∧ xs.length = 4) h
    have e1 := s32 hB (m := 0) (by omega)
    refine ⟨h.1.symm, ?_, rfl⟩
    show b32 (at4 xs 0) = xs
    rw [show xs.drop (0 + 4) = [] from List.drop_eq_nil_of_le (by omega), List.append_nil] at e1
    exact e1
  · have h := of_decide_eq_true (p := f = 0 ∧ xs.length = 0) h
    have := List.eq_nil_of_length_eq_zero h.2
    subst this
    exact ⟨h.1.symm, rfl, rfl⟩
  · have h := of_decide_eq_true (p := f = 0 ∧ (dec xs).2 = 0) h
    obtain ⟨p1, p2⟩ := pr _ hB h.2
    refine ⟨h.1.symm, p1, ?_⟩
    show (if allFit (dec xs).1 = true then (0 : Int) else 43) = 0
    rw [if_pos p2]
  · have h := of_decide_eq_true (p := f = 0) h
    exact ⟨h.symm, rfl, rfl⟩
  · have h := of_decide_eq_true (p := f = 0 ∧ xs.length = 0) h
    have := List.eq_nil_of_length_eq_zero h.2
    subst this
    exact ⟨h.1.symm, rfl, rfl⟩
  · have h := of_decide_eq_true (p := f < 2 ∧ xs.length = 0) h
    have := List.eq_nil_of_length_eq_zero h.2
    subst this
    exact ⟨fl1_back (by omega), rfl, rfl⟩
  · have h := of_decide_eq_true (p := f < 8 ∧ 17 ≤ xs.length ∧ at2 xs 6 = 0) h
    have e1 := s32 hB (m := 0) (by omega)
    have e2 := s16 hB (m := 4) (by omega)
    have e3 := s16 hB (m := 6) (by omega)
    have e4 := s32 hB (m := 8) (by omega)
    have e5 := s32 hB (m := 12) (by omega)
    refine ⟨fl3_back (by omega), ?_, ?_⟩
    · show b32 (at4 xs 0) ++ b16 (at2 xs 4) ++ b16 0 ++ b32 (at4 xs 8) ++ b32 (if flB f then (if flB f then at4 xs 12 else 0) else (if flB f then 0 else at4 xs 12)) ++ xs.drop 16 = xs
      rw [show (if flB f then (if flB f then at4 xs 12 else 0) else (if flB f then 0 else at4 xs 12)) = at4 xs 12 by cases flB f <;> rfl]
      rw [h.2.2] at e3
      simp only [List.append_assoc]
      rw [e5, e4, e3, e2, e1]
      rfl
    · show (if xs.drop 16 = [] then (42 : Int) else 0) = 0
      rw [if_neg (by intro e; have := congrArg List.length e; rw [List.length_drop] at this; simp at this; omega)]
  · have h := of_decide_eq_true (p := f = 0 ∧ (dec xs).2 = 0) h
    obtain ⟨p1, p2⟩ := pr _ hB h.2
    refine ⟨h.1.symm, p1, ?_⟩
    show (if allFit (dec xs).1 = true then (0 : Int) else 43) = 0
    rw [if_pos p2]
  · have h := of_decide_eq_true (p := f = 0 ∧ 4 ≤ xs.length ∧ (xs.length - 4) % 4 = 0) h
    have e1 := s32 hB (m := 0) (by omega)
    have e2 := skips_back hB ((xs.length - 4) / 4) (by omega)
    rw [show xs.drop (4 + 4 * ((xs.length - 4) / 4)) = [] from List.drop_eq_nil_of_le (by omega), List.append_nil] at e2
    refine ⟨h.1.symm, ?_, rfl⟩
    show b32 (at4 xs 0) ++ sB (skipsAt xs ((xs.length - 4) / 4)) = xs
    rw [e2, e1]
    rfl
  · have h := of_decide_eq_true (p := f = 0 ∧ 4 ≤ xs.length ∧ (xs.length - 4) % 8 = 0 ∧ ∀ j, j < (xs.length - 4) / 8 → at2 xs (6 + 8 * j) ≤ 1) h
    have e1 := s32 hB (m := 0) (by omega)
    have e2 := skips_it_back hB ((xs.length - 4) / 8) (by omega) h.2.2.2
    rw [show xs.drop (4 + 8 * ((xs.length - 4) / 8)) = [] from List.drop_eq_nil_of_le (by omega), List.append_nil] at e2
    refine ⟨h.1.symm, ?_, rfl⟩
    show b32 (at4 xs 0) ++ tB (skipsIt xs ((xs.length - 4) / 8)) = xs
    rw [e2, e1]
    rfl
/-- The bounds of what was read. -/
theorem rC_b {k f : Int} {xs : List Int} (hk : 0 ≤ k ∧ k < 256) (hB : IsB xs) (h : rOk k f xs = true) (hkn : kn k = true) : CkB (rC k f xs) := by
  have z3 : 0 ≤ (0 : Int) ∧ (0 : Int) < 4294967296 := by decide
  have z1 : 0 ≤ (0 : Int) ∧ (0 : Int) < 65536 := by decide
  have z : CkB (zC k) := ⟨hk, z3, z1, z3, z3, z3, z3, z3, z1, z1, fun _ h => absurd h List.not_mem_nil, fun _ h => absurd h List.not_mem_nil, fun _ h => absurd h List.not_mem_nil, fun _ h => absurd h List.not_mem_nil, fun _ h => absurd h List.not_mem_nil⟩
  have r2 := at2_rng hB
  have r4 := at4_rng xs
  have w2 : ∀ m, 0 ≤ at2 xs m ∧ at2 xs m < 4294967296 := fun m => by have := r2 m; omega
  have pr : ∀ ys, IsB ys → (dec ys).2 = 0 → ∀ p ∈ (dec ys).1, InB p := fun ys hy h p hp => by
    obtain ⟨h1, h2⟩ := enc_dec ys.length ys (Nat.le_refl _) hy h
    have := h1 p hp
    exact ⟨this.1, this.2.1, this.2.2.1⟩
  simp [kn] at hkn
  rcases hkn with rfl | rfl | rfl | rfl | rfl | rfl | rfl | rfl | rfl | rfl | rfl | rfl | rfl | rfl | rfl | rfl | rfl
  · exact { z with tsn := r4 0, st := r2 4, mid := w2 6, pp := r4 8, body := isb_drop hB 12 }
  · have h := of_decide_eq_true (p := f = 0 ∧ 16 ≤ xs.length ∧ (dec (xs.drop 16)).2 = 0) h
    exact { z with tag := r4 0, win := r4 4, out := r2 8, inn := r2 10, tsn := r4 12, ps := pr _ (isb_drop hB 16) h.2.2 }
  · have h := of_decide_eq_true (p := f = 0 ∧ 16 ≤ xs.length ∧ (dec (xs.drop 16)).2 = 0) h
    exact { z with tag := r4 0, win := r4 4, out := r2 8, inn := r2 10, tsn := r4 12, ps := pr _ (isb_drop hB 16) h.2.2 }
  · refine { z with tsn := r4 0, win := r4 4, gaps := ?_, dups := ?_ }
    · intro g hg
      obtain ⟨j, _, rfl⟩ := List.mem_map.1 hg
      exact ⟨r2 _, r2 _⟩
    · intro g hg
      obtain ⟨j, _, rfl⟩ := List.mem_map.1 hg
      exact r4 _
  · exact { z with body := hB }
  · exact { z with body := hB }
  · have h := of_decide_eq_true (p := f < 2 ∧ (dec xs).2 = 0) h
    exact { z with ps := pr _ hB h.2 }
  · exact { z with tsn := r4 0 }
  · exact z
  · have h := of_decide_eq_true (p := f = 0 ∧ (dec xs).2 = 0) h
    exact { z with ps := pr _ hB h.2 }
  · exact { z with body := hB }
  · exact z
  · exact { z with k := z.k }
  · refine { z with tsn := r4 0, st := r2 4, mid := r4 8, pp := ?_, fr := ?_, body := isb_drop hB 16 }
    · have := r4 12
      show 0 ≤ (if flB f then at4 xs 12 else 0) ∧ (if flB f then at4 xs 12 else 0) < 4294967296
      split <;> omega
    · have := r4 12
      show 0 ≤ (if flB f then 0 else at4 xs 12) ∧ (if flB f then 0 else at4 xs 12) < 4294967296
      split <;> omega
  · have h := of_decide_eq_true (p := f = 0 ∧ (dec xs).2 = 0) h
    exact { z with ps := pr _ hB h.2 }
  · refine { z with tsn := r4 0, skips := ?_ }
    intro g hg
    obtain ⟨j, _, rfl⟩ := List.mem_map.1 hg
    exact ⟨r2 _, w2 _⟩
  · refine { z with tsn := r4 0, skips := ?_ }
    intro g hg
    obtain ⟨j, _, rfl⟩ := List.mem_map.1 hg
    exact ⟨r2 _, r4 _⟩
theorem dec_len {xs : List Int} (hB : IsB xs) : (enc (dec xs).1).length ≤ xs.length ∧ (dec xs).1.length ≤ xs.length := by
  by_cases h : (dec xs).2 = 0
  · obtain ⟨h1, h2⟩ := enc_dec xs.length xs (Nat.le_refl _) hB h
    have : ∀ ps : List Pm, ps.length ≤ (enc ps).length := fun ps => by
      induction ps with
      | nil => exact Nat.le_refl _
      | cons p ps ih =>
        show ps.length + 1 ≤ (encP p ++ enc ps).length
        have := encP_pos p
        rw [List.length_append]; omega
    have h3 := this (dec xs).1
    rw [h2] at h3 ⊢
    exact ⟨Nat.le_refl _, h3⟩
  · rw [dec_bad h]; exact ⟨Nat.zero_le _, Nat.zero_le _⟩
theorem rC_l {k f : Int} {xs : List Int} (hB : IsB xs) (hl : xs.length ≤ 1000000) (hkn : kn k = true) : CkL (rC k f xs) := by
  have z : CkL (zC k) := ⟨by simp [zC], by simp [zC], by simp [zC], by simp [zC, enc], by simp [zC], by simp [zC]⟩
  have hd : ∀ m, (xs.drop m).length ≤ 1000000000 := fun m => by rw [List.length_drop]; omega
  have r2 := at2_rng hB
  have ra : ∀ m, (enc (dec (xs.drop m)).1).length ≤ 1000000000 ∧ (dec (xs.drop m)).1.length ≤ 1000000000 := fun m => by
    have := dec_len (isb_drop hB m)
    rw [List.length_drop] at this
    omega
  have rb := dec_len hB
  simp [kn] at hkn
  rcases hkn with rfl | rfl | rfl | rfl | rfl | rfl | rfl | rfl | rfl | rfl | rfl | rfl | rfl | rfl | rfl | rfl | rfl
  · exact { z with body := hd 12 }
  · exact { z with ps := (ra 16).1, pl := (ra 16).2 }
  · exact { z with ps := (ra 16).1, pl := (ra 16).2 }
  · refine { z with gaps := ?_, dups := ?_ }
    · show (List.map _ _).length ≤ _
      rw [List.length_map, List.length_range]
      have := r2 8; omega
    · show (List.map _ _).length ≤ _
      rw [List.length_map, List.length_range]
      have := r2 10; omega
  · exact { z with body := by show xs.length ≤ _; omega }
  · exact { z with body := by show xs.length ≤ _; omega }
  · exact { z with ps := by show (enc (dec xs).1).length ≤ _; omega, pl := by show (dec xs).1.length ≤ _; omega }
  · exact { z with gaps := z.gaps }
  · exact z
  · exact { z with ps := by show (enc (dec xs).1).length ≤ _; omega, pl := by show (dec xs).1.length ≤ _; omega }
  · exact { z with body := by show xs.length ≤ _; omega }
  · exact z
  · exact { z with gaps := z.gaps }
  · exact { z with body := hd 16 }
  · exact { z with ps := by show (enc (dec xs).1).length ≤ _; omega, pl := by show (dec xs).1.length ≤ _; omega }
  · exact { z with skips := by show (List.map _ _).length ≤ _; rw [List.length_map, List.length_range]; omega }
  · exact { z with skips := by show (List.map _ _).length ≤ _; rw [List.length_map, List.length_range]; omega }
theorem num_one_ (a : Int) (ha : 0 ≤ a ∧ a < 256) : num [a] = a := by simp [num]; omega
/-- Bytes that begin with a chunk. -/
theorem gE_ok {bs : List Int} (h : gE bs = 0) : 4 ≤ bs.length ∧ 4 ≤ gL bs ∧ all (gL bs) ≤ bs.length ∧ ((bs.take (all (gL bs))).drop (gL bs)).any (fun x => x != 0) = false ∧ kn (at1 bs 0) = true ∧ rOk (at1 bs 0) (at1 bs 1) (gI bs) = true := by
  unfold gE at h
  by_cases h1 : bs.length < 4
  · rw [if_pos h1] at h; cases h
  rw [if_neg h1] at h
  by_cases h2 : gL bs < 4
  · rw [if_pos h2] at h; cases h
  rw [if_neg h2] at h
  by_cases h3 : bs.length < all (gL bs)
  · rw [if_pos h3] at h; cases h
  rw [if_neg h3] at h
  cases h4 : ((bs.take (all (gL bs))).drop (gL bs)).any (fun x => x != 0) with
  | true => rw [if_pos h4] at h; cases h
  | false =>
    rw [if_neg (by rw [h4]; decide)] at h
    cases h5 : kn (at1 bs 0) with
    | false => rw [if_pos h5] at h; cases h
    | true =>
      rw [if_neg (by rw [h5]; decide)] at h
      cases h6 : rOk (at1 bs 0) (at1 bs 1) (gI bs) with
      | false => rw [if_pos h6] at h; cases h
      | true => exact ⟨by omega, by omega, by omega, rfl, rfl, rfl⟩
/-- A chunk got is put as the bytes that it was got from. -/
theorem got_put {bs : List Int} (hB : IsB bs) (h : gE bs = 0) : cE (gCk bs) = 0 ∧ cB (gCk bs) = bs.take (gN bs) ∧ CkB (gCk bs) ∧ gN bs ≤ bs.length ∧ 4 ≤ gN bs ∧ (gCk bs).k = at1 bs 0 := by
  obtain ⟨h1, h2, h3, h4, h5, h6⟩ := gE_ok h
  have r0 := at1_rng hB 0
  have r1 := at1_rng hB 1
  have r2 := at2_rng hB 2
  have hI : IsB (gI bs) := isb_drop (isb_take hB _) _
  have hg : gCk bs = rC (at1 bs 0) (at1 bs 1) (gI bs) := by unfold gCk; rw [if_pos h]
  have hn : gN bs = all (gL bs) := by unfold gN; rw [if_pos h]
  have ha : gL bs ≤ all (gL bs) ∧ all (gL bs) < gL bs + 4 := by unfold all; omega
  have hLr : gL bs < 65536 := by unfold gL; omega
  have hIl : (gI bs).length + 4 = gL bs := by unfold gI; rw [List.length_drop, List.length_take]; omega
  obtain ⟨b1, b2, b3⟩ := rC_back h5 r1 hI h6
  have hk := rC_k (at1 bs 0) (at1 bs 1) (gI bs)
  rw [hg, hn]
  refine ⟨?_, ?_, rC_b r0 hI h6 h5, h3, by omega, hk⟩
  · unfold cE
    rw [hk, b2, b3, if_neg (by rw [h5]; decide), if_neg (by decide), if_neg (by omega)]
  · unfold cB
    rw [hk, b1, b2, hIl]
    have hz := zeros_of h4
    have hpz : ((bs.take (all (gL bs))).drop (gL bs)).length = (4 - gL bs % 4) % 4 := by rw [List.length_drop, List.length_take]; unfold all at *; omega
    rw [hpz] at hz
    have hL : ((gL bs : Nat) : Int) = at2 bs 2 := by unfold gL; omega
    have e2 := s16 hB (m := 2) (by omega)
    rw [hL, ← hz]
    have s1 : gI bs = (bs.take (gL bs)).drop 4 := rfl
    have hf : [at1 bs 0, at1 bs 1] ++ b16 (at2 bs 2) = bs.take 4 := by
      unfold at1 at2
      match bs, h1, hB with
      | a :: b :: c :: d :: t, _, hB =>
        have t1 : tk ((a :: b :: c :: d :: t).drop 0) 1 = [a] := tk_in (xs := a :: b :: c :: d :: t) (n := 1) (by simp)
        have t2 : tk ((a :: b :: c :: d :: t).drop 1) 1 = [b] := tk_in (xs := b :: c :: d :: t) (n := 1) (by simp)
        have t3 : tk ((a :: b :: c :: d :: t).drop 2) 2 = [c, d] := tk_in (xs := c :: d :: t) (n := 2) (by simp)
        rw [t1, t2, t3, num_one_ a (hB a (by simp)), num_one_ b (hB b (by simp)), num_two_ c d (hB c (by simp)) (hB d (by simp))]
        rfl
    rw [hf, s1]
    have s3 : bs.take 4 ++ (bs.take (gL bs)).drop 4 = bs.take (gL bs) := by
      have := List.take_append_drop 4 (bs.take (gL bs))
      rwa [List.take_take, Nat.min_eq_left (by omega)] at this
    have s4 : bs.take (gL bs) ++ (bs.take (all (gL bs))).drop (gL bs) = bs.take (all (gL bs)) := by
      have := List.take_append_drop (gL bs) (bs.take (all (gL bs)))
      rwa [List.take_take, Nat.min_eq_left (by omega)] at this
    rw [s3, s4]
theorem got_l {bs : List Int} (hB : IsB bs) (h : gE bs = 0) : CkL (gCk bs) := by
  obtain ⟨h1, h2, h3, h4, h5, h6⟩ := gE_ok h
  have r2 := at2_rng hB 2
  have hI : IsB (gI bs) := isb_drop (isb_take hB _) _
  have hg : gCk bs = rC (at1 bs 0) (at1 bs 1) (gI bs) := by unfold gCk; rw [if_pos h]
  rw [hg]
  refine rC_l hI ?_ h5
  unfold gI gL
  rw [List.length_drop, List.length_take]
  omega
end Go.Proofs.Ytaifihoheieneaa.Chk
namespace Go.Proofs.Ytaifihoheieneaa.Chk
open Go.RowKit Go.Proofs.Ytaifihoheieneaa.Mem Go.Proofs.Ytaifihoheieneaa.Octet Go.Proofs.Ytaifihoheieneaa.Prm
set_option linter.unusedVariables false
set_option linter.unusedSimpArgs false
theorem isb_nil : IsB [] := fun x h => absurd h List.not_mem_nil
theorem isb_app {xs ys : List Int} (h1 : IsB xs) (h2 : IsB ys) : IsB (xs ++ ys) := fun x h => by
  rcases List.mem_append.1 h with h | h
  · exact h1 x h
  · exact h2 x h
theorem isb_b16 (x : Int) : IsB (b16 x) := fun y h => by
  simp only [b16, List.mem_cons, List.not_mem_nil, or_false] at h
  rcases h with rfl | rfl <;> omega
theorem isb_b32 (x : Int) : IsB (b32 x) := fun y h => by
  simp only [b32, List.mem_cons, List.not_mem_nil, or_false] at h
  rcases h with rfl | rfl | rfl | rfl <;> omega
theorem isb_map {α : Type} {f : α → List Int} (hf : ∀ a, IsB (f a)) (l : List α) : IsB (l.flatMap f) := fun x h => by
  obtain ⟨a, _, h⟩ := List.mem_flatMap.1 h
  exact hf a x h
theorem isb_gB (l : List (Int × Int)) : IsB (gB l) := isb_map (fun g => isb_app (isb_b16 _) (isb_b16 _)) l
theorem isb_dB (l : List Int) : IsB (dB l) := isb_map (fun g => isb_b32 _) l
theorem isb_sB (l : List (Int × Bool × Int)) : IsB (sB l) := isb_map (fun g => isb_app (isb_b16 _) (isb_b16 _)) l
theorem isb_tB (l : List (Int × Bool × Int)) : IsB (tB l) := isb_map (fun g => isb_app (isb_app (isb_b16 _) (isb_b16 _)) (isb_b32 _)) l
theorem isb_encP_ (p : Pm) (h : IsB p.2) : IsB (encP p) := by
  unfold encP
  refine isb_app (fun x hx => ?_) (isb_app h (fun x hx => ?_))
  · simp only [List.mem_cons, List.not_mem_nil, or_false] at hx
    rcases hx with rfl | rfl | rfl | rfl <;> omega
  · rw [List.eq_of_mem_replicate hx]; decide
theorem isb_enc_ {ps : List Pm} (h : ∀ p ∈ ps, InB p) : IsB (enc ps) := by
  induction ps with
  | nil => exact isb_nil
  | cons p ps ih =>
    show IsB (encP p ++ enc ps)
    exact isb_app (isb_encP_ p (h p (by simp)).2.2) (ih (fun q hq => h q (List.mem_cons_of_mem _ hq)))
theorem isb_bB {c : Ck} (h : CkB c) : IsB (bB c) := by
  have hp := isb_enc_ h.ps
  unfold bB
  by_cases h0 : c.k = 0
  · rw [if_pos h0]
    exact isb_app (isb_app (isb_app (isb_app (isb_b32 _) (isb_b16 _)) (isb_b16 _)) (isb_b32 _)) h.body
  rw [if_neg h0]
  by_cases h0 : c.k = 64
  · rw [if_pos h0]
    exact isb_app (isb_app (isb_app (isb_app (isb_app (isb_b32 _) (isb_b16 _)) (isb_b16 _)) (isb_b32 _)) (isb_b32 _)) h.body
  rw [if_neg h0]
  by_cases h0 : c.k = 3
  · rw [if_pos h0]
    exact isb_app (isb_app (isb_app (isb_app (isb_app (isb_b32 _) (isb_b32 _)) (isb_b16 _)) (isb_b16 _)) (isb_gB _)) (isb_dB _)
  rw [if_neg h0]
  by_cases h0 : c.k = 4 ∨ c.k = 5 ∨ c.k = 10
  · rw [if_pos h0]
    exact h.body
  rw [if_neg h0]
  by_cases h0 : c.k = 7
  · rw [if_pos h0]
    exact isb_b32 _
  rw [if_neg h0]
  by_cases h0 : c.k = 192
  · rw [if_pos h0]
    exact isb_app (isb_b32 _) (isb_sB _)
  rw [if_neg h0]
  by_cases h0 : c.k = 194
  · rw [if_pos h0]
    exact isb_app (isb_b32 _) (isb_tB _)
  rw [if_neg h0]
  by_cases h0 : c.k = 1 ∨ c.k = 2
  · rw [if_pos h0]
    exact isb_app (isb_app (isb_app (isb_app (isb_app (isb_b32 _) (isb_b32 _)) (isb_b16 _)) (isb_b16 _)) (isb_b32 _)) hp
  rw [if_neg h0]
  by_cases h0 : c.k = 6 ∨ c.k = 9 ∨ c.k = 130
  · rw [if_pos h0]
    exact hp
  rw [if_neg h0]
  exact isb_nil
theorem isb_zz {k f : Int} {xs : List Int} (hk : 0 ≤ k ∧ k < 256) (hf : 0 ≤ f ∧ f < 256) (h : IsB xs) : IsB (zz k f xs) := by
  unfold zz
  refine isb_app (isb_app (isb_app (fun x hx => ?_) (isb_b16 _)) h) (fun x hx => ?_)
  · simp only [List.mem_cons, List.not_mem_nil, or_false] at hx
    rcases hx with rfl | rfl <;> assumption
  · rw [List.eq_of_mem_replicate hx]; decide
theorem isb_cB {c : Ck} (h : CkB c) : IsB (cB c) := by
  have := fl_rng c
  exact isb_zz h.k (by omega) (isb_bB h)
theorem cB_len4 {c : Ck} : 4 ≤ (cB c).length := by rw [cB_zz, zz_len]; unfold all; omega
theorem cB_top {c : Ck} (h : cE c = 0) : (cB c).length ≤ 65536 := by
  obtain ⟨h1, h2, h3⟩ := cE_parts h
  rw [cB_zz, zz_len]; unfold all; omega
theorem cB_set (c : Ck) (f : Int) : (cB c).set 1 f = zz c.k f (bB c) := by
  rw [cB_zz]
  unfold zz
  rfl
/-- A chunk's own flags that were read. -/
theorem rC_fl3 {k f : Int} {xs : List Int} (h : k = 0 ∨ k = 64) : (rC k f xs).e = flE f ∧ (rC k f xs).b = flB f ∧ (rC k f xs).l = flL f := by
  rcases h with rfl | rfl <;> exact ⟨rfl, rfl, rfl⟩
theorem rC_fl1 {k f : Int} {xs : List Int} (h : k = 6 ∨ k = 14) : (rC k f xs).r = flE f := by
  rcases h with rfl | rfl <;> rfl
theorem flE_one {f : Int} (h0 : 0 ≤ f) (h : f < 2) : flE f = (f == 1) := by
  have : f = 0 ∨ f = 1 := by omega
  rcases this with rfl | rfl <;> decide
end Go.Proofs.Ytaifihoheieneaa.Chk
namespace Go.Proofs.Ytaifihoheieneaa.Chk
open Go.RowKit Go.Proofs.Ytaifihoheieneaa.Mem Go.Proofs.Ytaifihoheieneaa.Octet Go.Proofs.Ytaifihoheieneaa.Prm
set_option linter.unusedVariables false
set_option linter.unusedSimpArgs false
/-- Cells of one, but for some that are another's. -/
structure Mix (csG csO : Array Value) (S : Nat → Bool) (cs' : Array Value) : Prop where
  size : cs'.size = 19
  at_ : ∀ i, cs'[i]? = if S i = true then csO[i]? else csG[i]?
theorem Mix.refl {csG : Array Value} (csO : Array Value) (h : csG.size = 19) : Mix csG csO (fun _ => false) csG := ⟨h, fun i => by simp⟩
theorem Mix.congr {csG csO cs' : Array Value} {S S' : Nat → Bool} (h : Mix csG csO S cs') (e : ∀ i, S i = S' i) : Mix csG csO S' cs' := by
  have : S = S' := funext e
  exact this ▸ h
theorem Mix.set {csG csO cs' : Array Value} {S : Nat → Bool} {f : Nat} {v : Value} (h : Mix csG csO S cs') (hv : csO[f]? = some v) (hf : f < 19) : Mix csG csO (fun i => S i || i == f) (cs'.setIfInBounds f v) := by
  refine ⟨by rw [Array.size_setIfInBounds]; exact h.size, fun i => ?_⟩
  rw [Array.getElem?_setIfInBounds]
  by_cases hi : f = i
  · subst hi
    rw [if_pos rfl, if_pos (by rw [h.size]; exact hf), if_pos (by simp), hv]
  · rw [if_neg hi, h.at_ i]
    have : (i == f) = false := beq_eq_false_iff_ne.2 (fun e => hi e.symm)
    simp [this]
def mixc (S : Nat → Bool) (g o : Ck) : Ck :=
  ⟨bif S 0 then o.k else g.k, bif S 1 then o.b else g.b, bif S 2 then o.e else g.e, bif S 3 then o.l else g.l, bif S 4 then o.r else g.r, bif S 5 then o.tsn else g.tsn, bif S 6 then o.st else g.st, bif S 7 then o.mid else g.mid, bif S 8 then o.pp else g.pp, bif S 9 then o.fr else g.fr,
    bif S 10 then o.tag else g.tag, bif S 11 then o.win else g.win, bif S 12 then o.out else g.out, bif S 13 then o.inn else g.inn, bif S 14 then o.gaps else g.gaps, bif S 15 then o.dups else g.dups, bif S 16 then o.skips else g.skips, bif S 17 then o.ps else g.ps, bif S 18 then o.body else g.body⟩
theorem all_of_at {cs' csG csO : Array Value} (hG : csG.all (fun v => v.oneCell') = true) (hO : csO.all (fun v => v.oneCell') = true) (h : ∀ i : Nat, cs'[i]? = csO[i]? ∨ cs'[i]? = csG[i]?) : cs'.all (fun v => v.oneCell') = true := by
  rw [Array.all_eq_true] at hG hO ⊢
  intro i hi
  rcases h i with e | e
  · rw [Array.getElem?_eq_getElem hi] at e
    obtain ⟨h1, h2⟩ := Array.getElem?_eq_some_iff.1 e.symm
    rw [← h2]; exact hO i h1
  · rw [Array.getElem?_eq_getElem hi] at e
    obtain ⟨h1, h2⟩ := Array.getElem?_eq_some_iff.1 e.symm
    rw [← h2]; exact hG i h1
theorem Mix.v {w : World} {lo hi : Nat} {csG csO cs' : Array Value} {S : Nat → Bool} {g o : Ck} (h : Mix csG csO S cs') (hG : CkV w lo hi csG g) (hO : CkV w lo hi csO o) : CkV w lo hi cs' (mixc S g o) := by
  have H := h.at_
  have one : cs'.all (·.oneCell') = true := all_of_at hG.one hO.one (fun i => by rw [H i]; cases S i <;> simp)
  unfold mixc
  have k0 := H 0
  have k1 := H 1
  have k2 := H 2
  have k3 := H 3
  have k4 := H 4
  have k5 := H 5
  have k6 := H 6
  have k7 := H 7
  have k8 := H 8
  have k9 := H 9
  have k10 := H 10
  have k11 := H 11
  have k12 := H 12
  have k13 := H 13
  have k14 := H 14
  have k15 := H 15
  have k16 := H 16
  have k17 := H 17
  have k18 := H 18
  refine ⟨h.size, one, ?_, ?_, ?_, ?_, ?_, ?_, ?_, ?_, ?_, ?_, ?_, ?_, ?_, ?_, ?_, ?_, ?_, ?_, ?_⟩
  · rw [k0]
    cases S 0
    · simpa using hG.c0
    · simpa using hO.c0
  · rw [k1]
    cases S 1
    · simpa using hG.c1
    · simpa using hO.c1
  · rw [k2]
    cases S 2
    · simpa using hG.c2
    · simpa using hO.c2
  · rw [k3]
    cases S 3
    · simpa using hG.c3
    · simpa using hO.c3
  · rw [k4]
    cases S 4
    · simpa using hG.c4
    · simpa using hO.c4
  · rw [k5]
    cases S 5
    · simpa using hG.c5
    · simpa using hO.c5
  · rw [k6]
    cases S 6
    · simpa using hG.c6
    · simpa using hO.c6
  · rw [k7]
    cases S 7
    · simpa using hG.c7
    · simpa using hO.c7
  · rw [k8]
    cases S 8
    · simpa using hG.c8
    · simpa using hO.c8
  · rw [k9]
    cases S 9
    · simpa using hG.c9
    · simpa using hO.c9
  · rw [k10]
    cases S 10
    · simpa using hG.c10
    · simpa using hO.c10
  · rw [k11]
    cases S 11
    · simpa using hG.c11
    · simpa using hO.c11
  · rw [k12]
    cases S 12
    · simpa using hG.c12
    · simpa using hO.c12
  · rw [k13]
    cases S 13
    · simpa using hG.c13
    · simpa using hO.c13
  · rw [k14]
    cases S 14
    · obtain ⟨A, p, e, x⟩ := hG.c14
      exact ⟨A, p, by simpa using e, by simpa using x⟩
    · obtain ⟨A, p, e, x⟩ := hO.c14
      exact ⟨A, p, by simpa using e, by simpa using x⟩
  · rw [k15]
    cases S 15
    · obtain ⟨A, p, e, x⟩ := hG.c15
      exact ⟨A, p, by simpa using e, by simpa using x⟩
    · obtain ⟨A, p, e, x⟩ := hO.c15
      exact ⟨A, p, by simpa using e, by simpa using x⟩
  · rw [k16]
    cases S 16
    · obtain ⟨A, p, e, x⟩ := hG.c16
      exact ⟨A, p, by simpa using e, by simpa using x⟩
    · obtain ⟨A, p, e, x⟩ := hO.c16
      exact ⟨A, p, by simpa using e, by simpa using x⟩
  · rw [k17]
    cases S 17
    · obtain ⟨A, p, e, x⟩ := hG.c17
      exact ⟨A, p, by simpa using e, by simpa using x⟩
    · obtain ⟨A, p, e, x⟩ := hO.c17
      exact ⟨A, p, by simpa using e, by simpa using x⟩
  · rw [k18]
    cases S 18
    · obtain ⟨A, p, e, x⟩ := hG.c18
      exact ⟨A, p, by simpa using e, by simpa using x⟩
    · obtain ⟨A, p, e, x⟩ := hO.c18
      exact ⟨A, p, by simpa using e, by simpa using x⟩
theorem bare_mix (g o : Ck) : bare g o = mixc (fun i => if g.k = 7 then i == 6 || (i == 18 || (i == 14 || i == 4)) else if g.k = 11 ∨ g.k = 8 then i == 5 || (i == 17 || i == 1) else if g.k = 0 ∨ g.k = 64 then i == 11 || (i == 16 || i == 15) else if g.k = 3 then i == 18 || (i == 16 || i == 3) else i == 14 || (i == 15 || (i == 6 || i == 8))) g o := by
  unfold bare
  by_cases h7 : g.k = 7
  · simp only [if_pos h7]; rfl
  simp only [if_neg h7]
  by_cases h8 : g.k = 11 ∨ g.k = 8
  · simp only [if_pos h8]; rfl
  simp only [if_neg h8]
  by_cases h0 : g.k = 0 ∨ g.k = 64
  · simp only [if_pos h0]; rfl
  simp only [if_neg h0]
  by_cases h3 : g.k = 3
  · simp only [if_pos h3]; rfl
  simp only [if_neg h3]; rfl
end Go.Proofs.Ytaifihoheieneaa.Chk
