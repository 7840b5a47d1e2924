/- A chunk that was put is got: the head, the length, the padding; cut off it is none. Plain facts. -/
import Derived.Test.YtaifihoheieneaaChkGet
import Derived.Test.YtaifihoheieneaaChkPut
namespace Go.Proofs.Ytaifihoheieneaa.Chk
open Go.RowKit Go.Proofs.Ytaifihoheieneaa.Mem Go.Proofs.Ytaifihoheieneaa.Octet Go.Proofs.Ytaifihoheieneaa.Prm
set_option linter.unusedVariables false
set_option linter.unusedSimpArgs false
theorem tk_pre {xs ys : List Int} {n : Nat} (h : xs.length = n) : tk (xs ++ ys) n = xs := by
  unfold tk
  rw [if_neg (by simp; omega)]
  subst h
  simp
theorem at2_app {pre ys : List Int} {x : Int} {m : Nat} (hm : pre.length = m) (hx : 0 ≤ x ∧ x < 65536) : at2 (pre ++ (b16 x ++ ys)) m = x := by
  subst hm
  unfold at2
  rw [List.drop_left, show tk (b16 x ++ ys) 2 = b16 x from tk_pre (xs := b16 x) (n := 2) rfl]
  simp [num, b16]
  omega
theorem at4_app {pre ys : List Int} {x : Int} {m : Nat} (hm : pre.length = m) (hx : 0 ≤ x ∧ x < 4294967296) : at4 (pre ++ (b32 x ++ ys)) m = x := by
  subst hm
  unfold at4
  rw [List.drop_left, show tk (b32 x ++ ys) 4 = b32 x from tk_pre (xs := b32 x) (n := 4) rfl]
  simp [num, b32]
  omega
theorem at1_app {pre ys : List Int} {x : Int} {m : Nat} (hm : pre.length = m) (hx : 0 ≤ x ∧ x < 256) : at1 (pre ++ ([x] ++ ys)) m = x := by
  subst hm
  unfold at1
  rw [List.drop_left, show tk ([x] ++ ys) 1 = [x] from tk_pre (xs := [x]) (n := 1) rfl]
  simp [num]
  omega
theorem at2_short {xs : List Int} {m : Nat} (h : xs.length < m + 2) : at2 xs m = 0 := by
  unfold at2 tk
  rw [if_pos (.inr (by rw [List.length_drop]; omega))]
  rfl
def zz (k f : Int) (xs : List Int) : List Int := [k, f] ++ b16 ((xs.length + 4 : Nat) : Int) ++ xs ++ List.replicate ((4 - (xs.length + 4) % 4) % 4) 0
theorem zz_len (k f : Int) (xs : List Int) : (zz k f xs).length = all (xs.length + 4) := by
  unfold zz b16 all
  simp only [List.length_append, List.length_cons, List.length_nil, List.length_replicate]
  omega
theorem zz_k {k f : Int} {xs more : List Int} (hk : 0 ≤ k ∧ k < 256) : at1 (zz k f xs ++ more) 0 = k := by
  have := at1_app (pre := []) (x := k) (ys := [f] ++ b16 ((xs.length + 4 : Nat) : Int) ++ xs ++ List.replicate ((4 - (xs.length + 4) % 4) % 4) 0 ++ more) (m := 0) rfl hk
  simpa [zz] using this
theorem zz_f {k f : Int} {xs more : List Int} (hk : 0 ≤ f ∧ f < 256) : at1 (zz k f xs ++ more) 1 = f := by
  have := at1_app (pre := [k]) (x := f) (ys := b16 ((xs.length + 4 : Nat) : Int) ++ xs ++ List.replicate ((4 - (xs.length + 4) % 4) % 4) 0 ++ more) (m := 1) rfl hk
  simpa [zz] using this
theorem zz_n {k f : Int} {xs more : List Int} (hl : xs.length + 4 ≤ 65535) : at2 (zz k f xs ++ more) 2 = ((xs.length + 4 : Nat) : Int) := by
  have := at2_app (pre := [k, f]) (x := ((xs.length + 4 : Nat) : Int)) (ys := xs ++ List.replicate ((4 - (xs.length + 4) % 4) % 4) 0 ++ more) (m := 2) rfl (by omega)
  have e : zz k f xs ++ more = [k, f] ++ (b16 ((xs.length + 4 : Nat) : Int) ++ (xs ++ List.replicate ((4 - (xs.length + 4) % 4) % 4) 0 ++ more)) := by simp [zz]
  rw [e]
  exact this
theorem zz_take (k f : Int) (xs more : List Int) : (zz k f xs ++ more).take (xs.length + 4) = [k, f] ++ b16 ((xs.length + 4 : Nat) : Int) ++ xs := by
  have e : zz k f xs ++ more = ([k, f] ++ b16 ((xs.length + 4 : Nat) : Int) ++ xs) ++ (List.replicate ((4 - (xs.length + 4) % 4) % 4) 0 ++ more) := by simp [zz]
  rw [e]
  apply List.take_left'
  simp [b16]
theorem zz_body (k f : Int) (xs more : List Int) : ((zz k f xs ++ more).take (xs.length + 4)).drop 4 = xs := by
  rw [zz_take]
  rfl
theorem zz_pad (k f : Int) (xs more : List Int) : ((zz k f xs ++ more).take (all (xs.length + 4))).drop (xs.length + 4) = List.replicate ((4 - (xs.length + 4) % 4) % 4) 0 := by
  rw [← zz_len k f xs, List.take_left']
  · have e : zz k f xs = ([k, f] ++ b16 ((xs.length + 4 : Nat) : Int) ++ xs) ++ List.replicate ((4 - (xs.length + 4) % 4) % 4) 0 := rfl
    rw [e]
    apply List.drop_left'
    simp [b16]
  · rfl
theorem rep_any (n : Nat) : (List.replicate n (0 : Int)).any (fun x => x != 0) = false := by
  rw [List.any_eq_false]
  intro x hx
  rw [List.eq_of_mem_replicate hx]
  decide
/-- A cut head tells a length of its own or none. -/
theorem zz_cut {k f : Int} {xs : List Int} (hl : xs.length + 4 ≤ 65535) {j : Nat} (h4 : 4 ≤ j) : at2 ((zz k f xs).take j) 2 = ((xs.length + 4 : Nat) : Int) := by
  have e2 : zz k f xs = ([k, f] ++ b16 ((xs.length + 4 : Nat) : Int)) ++ (xs ++ List.replicate ((4 - (xs.length + 4) % 4) % 4) 0) := by simp [zz]
  have e3 : (zz k f xs).take j = [k, f] ++ (b16 ((xs.length + 4 : Nat) : Int) ++ (xs ++ List.replicate ((4 - (xs.length + 4) % 4) % 4) 0).take (j - 4)) := by
    rw [e2, List.take_append, List.take_of_length_le (by simp [b16]; omega)]
    simp [b16]
  rw [e3]
  exact at2_app rfl (by omega)
theorem cB_zz (c : Ck) : cB c = zz c.k (fl c) (bB c) := rfl
theorem cE_parts {c : Ck} (hE : cE c = 0) : kn c.k = true ∧ bE c = 0 ∧ (bB c).length + 4 ≤ 65535 := by
  unfold cE at hE
  split at hE
  · cases hE
  · rename_i h1
    split at hE
    · rename_i h; exact absurd hE h
    · rename_i h2
      split at hE
      · cases hE
      · refine ⟨by simpa using h1, by simpa using h2, by omega⟩
theorem bt_rng1 (b : Bool) (v : Int) (h : 0 ≤ v) : 0 ≤ bt b v ∧ bt b v ≤ v := by cases b <;> simp [bt] <;> omega
theorem fl_rng (c : Ck) : 0 ≤ fl c ∧ fl c < 8 := by
  have f1 := bt_rng1 c.e 1 (by omega)
  have f2 := bt_rng1 c.b 2 (by omega)
  have f3 := bt_rng1 c.l 4 (by omega)
  have f4 := bt_rng1 c.r 1 (by omega)
  unfold fl
  split
  · omega
  · split <;> omega
/-- What stands at the head of a chunk's bytes, with any behind them. -/
theorem put_head {c : Ck} (hB : CkB c) (hE : cE c = 0) (more : List Int) : at1 (cB c ++ more) 0 = c.k ∧ at1 (cB c ++ more) 1 = fl c ∧ gL (cB c ++ more) = (bB c).length + 4 ∧ gI (cB c ++ more) = bB c := by
  obtain ⟨h1, h2, h3⟩ := cE_parts hE
  have h4 := fl_rng c
  rw [cB_zz]
  have hn := zz_n (k := c.k) (f := fl c) (xs := bB c) (more := more) h3
  have hg : gL (zz c.k (fl c) (bB c) ++ more) = (bB c).length + 4 := by unfold gL; rw [hn]; omega
  refine ⟨zz_k hB.k, zz_f (by omega), hg, ?_⟩
  unfold gI
  rw [hg]
  exact zz_body _ _ _ _
theorem put_got {c : Ck} (hB : CkB c) (hE : cE c = 0) (more : List Int) : gE (cB c ++ more) = if rOk c.k (fl c) (bB c) = false then 42 else 0 := by
  obtain ⟨e1, e2, e3, e4⟩ := put_head hB hE more
  obtain ⟨h1, h2, h3⟩ := cE_parts hE
  have hl := zz_len c.k (fl c) (bB c)
  have ha : (bB c).length + 4 ≤ all ((bB c).length + 4) := by unfold all; omega
  rw [gE_6 (by rw [List.length_append, cB_zz, hl]; omega) (by rw [e3]; omega) (by rw [e3, List.length_append, cB_zz, hl]; omega) (by rw [e3, cB_zz, zz_pad]; exact rep_any _) (by rw [e1]; exact h1), e1, e2, e4]
theorem put_long {c : Ck} (hB : CkB c) (hE : cE c = 0) (more : List Int) (hok : rOk c.k (fl c) (bB c) = true) : gN (cB c ++ more) = (cB c).length ∧ gCk (cB c ++ more) = rC c.k (fl c) (bB c) := by
  obtain ⟨e1, e2, e3, e4⟩ := put_head hB hE more
  have hg : gE (cB c ++ more) = 0 := by rw [put_got hB hE, hok]; rfl
  unfold gN gCk
  rw [if_pos hg, if_pos hg, e1, e2, e3, e4, cB_zz, zz_len]
  exact ⟨rfl, rfl⟩
theorem put_cut {c : Ck} (hE : cE c = 0) {j : Nat} (hj : j < (cB c).length) : gE ((cB c).take j) = 40 := by
  obtain ⟨h1, h2, h3⟩ := cE_parts hE
  by_cases h4 : j < 4
  · exact gE_1 (by rw [List.length_take]; omega)
  · have hl := zz_len c.k (fl c) (bB c)
    rw [← cB_zz] at hl
    have hlt : ((cB c).take j).length = j := by rw [List.length_take]; omega
    have hg : gL ((cB c).take j) = (bB c).length + 4 := by
      unfold gL
      rw [cB_zz, zz_cut h3 (by omega)]
      omega
    exact gE_3 (by omega) (by omega) (by rw [hg, hlt]; omega)
end Go.Proofs.Ytaifihoheieneaa.Chk
