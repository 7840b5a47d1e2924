/- A chunk that was put is got as it was, without the fields that its kind hasn't. Plain facts. -/
import Derived.Test.YtaifihoheieneaaChkLaw2
namespace Go.Proofs.Ytaifihoheieneaa.Chk
open Go.RowKit Go.Proofs.Ytaifihoheieneaa.Mem Go.Proofs.Ytaifihoheieneaa.Octet Go.Proofs.Ytaifihoheieneaa.Prm
set_option linter.unusedVariables false
set_option linter.unusedSimpArgs false
/-- The flags that a kind has. -/
def fOk (k f : Int) : Bool := if k = 0 ∨ k = 64 then decide (f < 8) else if k = 6 ∨ k = 14 then decide (f < 2) else decide (f = 0)
theorem rOk_fl {k f : Int} {xs : List Int} (h : rOk k f xs = true) (f' : Int) : rOk k f' xs = fOk k f' := by
  unfold rOk at h ⊢
  unfold fOk
  by_cases h0 : k = 0
  · subst h0
    rw [if_pos rfl] at h ⊢
    rw [if_pos (.inl rfl)]
    have := of_decide_eq_true h
    exact decide_eq_decide.2 ⟨fun h => h.1, fun h => ⟨h, this.2⟩⟩
  rw [if_neg h0] at h ⊢
  by_cases h64 : k = 64
  · subst h64
    rw [if_pos rfl] at h ⊢
    rw [if_pos (.inr rfl)]
    have := of_decide_eq_true h
    exact decide_eq_decide.2 ⟨fun h => h.1, fun h => ⟨h, this.2⟩⟩
  rw [if_neg h64] at h ⊢
  rw [if_neg (show ¬ (k = 0 ∨ k = 64) by omega)]
  by_cases h3 : k = 3
  · subst h3
    rw [if_pos rfl] at h ⊢
    rw [if_neg (by omega)]
    have := of_decide_eq_true h
    exact decide_eq_decide.2 ⟨fun h => h.1, fun h => ⟨h, this.2⟩⟩
  rw [if_neg h3] at h ⊢
  by_cases h4 : k = 4 ∨ k = 5 ∨ k = 10
  · rw [if_pos h4] at h ⊢
    rw [if_neg (by omega)]
  rw [if_neg h4] at h ⊢
  by_cases h7 : k = 7
  · subst h7
    rw [if_pos rfl] at h ⊢
    rw [if_neg (by omega)]
    have := of_decide_eq_true h
    exact decide_eq_decide.2 ⟨fun h => h.1, fun h => ⟨h, this.2⟩⟩
  rw [if_neg h7] at h ⊢
  by_cases h192 : k = 192
  · subst h192
    rw [if_pos rfl] at h ⊢
    rw [if_neg (by omega)]
    have := of_decide_eq_true h
    exact decide_eq_decide.2 ⟨fun h => h.1, fun h => ⟨h, this.2⟩⟩
  rw [if_neg h192] at h ⊢
  by_cases h194 : k = 194
  · subst h194
    rw [if_pos rfl] at h ⊢
    rw [if_neg (by omega)]
    have := of_decide_eq_true h
    exact decide_eq_decide.2 ⟨fun h => h.1, fun h => ⟨h, this.2⟩⟩
  rw [if_neg h194] at h ⊢
  by_cases h12 : k = 1 ∨ k = 2
  · rw [if_pos h12] at h ⊢
    rw [if_neg (by omega)]
    have := of_decide_eq_true h
    exact decide_eq_decide.2 ⟨fun h => h.1, fun h => ⟨h, this.2⟩⟩
  rw [if_neg h12] at h ⊢
  by_cases h6 : k = 6
  · subst h6
    rw [if_pos rfl] at h ⊢
    rw [if_pos (.inl rfl)]
    have := of_decide_eq_true h
    exact decide_eq_decide.2 ⟨fun h => h.1, fun h => ⟨h, this.2⟩⟩
  rw [if_neg h6] at h ⊢
  by_cases h14 : k = 14
  · subst h14
    rw [if_pos rfl] at h ⊢
    rw [if_pos (.inr rfl)]
    have := of_decide_eq_true h
    exact decide_eq_decide.2 ⟨fun h => h.1, fun h => ⟨h, this.2⟩⟩
  rw [if_neg h14] at h ⊢
  rw [if_neg (show ¬ (k = 6 ∨ k = 14) by omega)]
  by_cases h9 : k = 9 ∨ k = 130
  · rw [if_pos h9] at h ⊢
    have := of_decide_eq_true h
    exact decide_eq_decide.2 ⟨fun h => h.1, fun h => ⟨h, this.2⟩⟩
  rw [if_neg h9] at h ⊢
  have := of_decide_eq_true h
  exact decide_eq_decide.2 ⟨fun h => h.1, fun h => ⟨h, this.2⟩⟩
/-- What stands at the head of bytes with a chunk's head, with any behind them. -/
theorem zz_head {k f : Int} {xs : List Int} (hk : 0 ≤ k ∧ k < 256) (hf : 0 ≤ f ∧ f < 256) (hl : xs.length + 4 ≤ 65535) (more : List Int) : at1 (zz k f xs ++ more) 0 = k ∧ at1 (zz k f xs ++ more) 1 = f ∧ gL (zz k f xs ++ more) = xs.length + 4 ∧ gI (zz k f xs ++ more) = xs := by
  have hn := zz_n (k := k) (f := f) (xs := xs) (more := more) hl
  have hg : gL (zz k f xs ++ more) = xs.length + 4 := by unfold gL; rw [hn]; omega
  refine ⟨zz_k hk, zz_f hf, hg, ?_⟩
  unfold gI
  rw [hg]
  exact zz_body _ _ _ _
theorem zz_got {k f : Int} {xs : List Int} (hkn : kn k = true) (hk : 0 ≤ k ∧ k < 256) (hf : 0 ≤ f ∧ f < 256) (hl : xs.length + 4 ≤ 65535) (more : List Int) : gE (zz k f xs ++ more) = if rOk k f xs = false then 42 else 0 := by
  obtain ⟨e1, e2, e3, e4⟩ := zz_head hk hf hl more
  have hl' := zz_len k f xs
  have ha : xs.length + 4 ≤ all (xs.length + 4) := by unfold all; omega
  rw [gE_6 (by rw [List.length_append, hl']; omega) (by rw [e3]; omega) (by rw [e3, List.length_append, hl']; omega) (by rw [e3, zz_pad]; exact rep_any _) (by rw [e1]; exact hkn), e1, e2, e4]
theorem zz_ck {k f : Int} {xs : List Int} (hkn : kn k = true) (hk : 0 ≤ k ∧ k < 256) (hf : 0 ≤ f ∧ f < 256) (hl : xs.length + 4 ≤ 65535) (more : List Int) (hok : rOk k f xs = true) : gN (zz k f xs ++ more) = (zz k f xs).length ∧ gCk (zz k f xs ++ more) = rC k f xs := by
  obtain ⟨e1, e2, e3, e4⟩ := zz_head hk hf hl more
  have hg : gE (zz k f xs ++ more) = 0 := by rw [zz_got hkn hk hf hl, hok]; rfl
  unfold gN gCk
  rw [if_pos hg, if_pos hg, e1, e2, e3, e4, zz_len]
  exact ⟨rfl, rfl⟩
/-- A chunk without the fields that its kind hasn't. -/
def strip (c : Ck) : Ck :=
  if c.k = 0 then { zC c.k with e := c.e, b := c.b, l := c.l, tsn := c.tsn, st := c.st, mid := c.mid % 65536, pp := c.pp, body := c.body }
  else if c.k = 64 then { zC c.k with e := c.e, b := c.b, l := c.l, tsn := c.tsn, st := c.st, mid := c.mid, pp := (if c.b then c.pp else 0), fr := (if c.b then 0 else c.fr), body := c.body }
  else if c.k = 3 then { zC c.k with tsn := c.tsn, win := c.win, gaps := c.gaps, dups := c.dups }
  else if c.k = 4 ∨ c.k = 5 ∨ c.k = 10 then { zC c.k with body := c.body }
  else if c.k = 7 then { zC c.k with tsn := c.tsn }
  else if c.k = 192 then { zC c.k with tsn := c.tsn, skips := c.skips.map fun s => (s.1, false, s.2.2 % 65536) }
  else if c.k = 194 then { zC c.k with tsn := c.tsn, skips := c.skips }
  else if c.k = 1 ∨ c.k = 2 then { zC c.k with tag := c.tag, win := c.win, out := c.out, inn := c.inn, tsn := c.tsn, ps := c.ps }
  else if c.k = 6 then { zC c.k with r := c.r, ps := c.ps }
  else if c.k = 14 then { zC c.k with r := c.r }
  else if c.k = 9 ∨ c.k = 130 then { zC c.k with ps := c.ps }
  else zC c.k
theorem fl3 (e b l : Bool) : flE (bt e 1 + bt b 2 + bt l 4) = e ∧ flB (bt e 1 + bt b 2 + bt l 4) = b ∧ flL (bt e 1 + bt b 2 + bt l 4) = l := by
  cases e <;> cases b <;> cases l <;> decide
theorem fl1 (e : Bool) : flE (bt e 1) = e := by cases e <;> decide
theorem gB_app (a b : List (Int × Int)) : gB (a ++ b) = gB a ++ gB b := by unfold gB; rw [List.flatMap_append]
theorem dB_app (a b : List Int) : dB (a ++ b) = dB a ++ dB b := by unfold dB; rw [List.flatMap_append]
theorem sB_app (a b : List (Int × Bool × Int)) : sB (a ++ b) = sB a ++ sB b := by unfold sB; rw [List.flatMap_append]
theorem tB_app (a b : List (Int × Bool × Int)) : tB (a ++ b) = tB a ++ tB b := by unfold tB; rw [List.flatMap_append]
theorem gB_at (gs : List (Int × Int)) (j : Nat) (hj : j < gs.length) : gB gs = gB (gs.take j) ++ (b16 gs[j].1 ++ (b16 gs[j].2 ++ gB (gs.drop (j + 1)))) := by
  conv => lhs; rw [← List.take_append_drop (j + 1) gs, gB_app, gB_take gs j hj]
  simp only [List.append_assoc]
theorem dB_at (gs : List Int) (j : Nat) (hj : j < gs.length) : dB gs = dB (gs.take j) ++ (b32 gs[j] ++ dB (gs.drop (j + 1))) := by
  conv => lhs; rw [← List.take_append_drop (j + 1) gs, dB_app, dB_take gs j hj]
  simp only [List.append_assoc]
theorem sB_at (gs : List (Int × Bool × Int)) (j : Nat) (hj : j < gs.length) : sB gs = sB (gs.take j) ++ (b16 gs[j].1 ++ (b16 (gs[j].2.2 % 65536) ++ sB (gs.drop (j + 1)))) := by
  conv => lhs; rw [← List.take_append_drop (j + 1) gs, sB_app, sB_take gs j hj]
  simp only [List.append_assoc]
theorem tB_split (gs : List (Int × Bool × Int)) (j : Nat) (hj : j < gs.length) : tB gs = tB (gs.take j) ++ (b16 gs[j].1 ++ (b16 (bt gs[j].2.1 1) ++ (b32 gs[j].2.2 ++ tB (gs.drop (j + 1))))) := by
  conv => lhs; rw [← List.take_append_drop (j + 1) gs, tB_app, tB_take gs j hj]
  simp only [List.append_assoc]
theorem gaps_of {pre ys : List Int} {m : Nat} (hm : pre.length = m) {gs : List (Int × Int)} (hg : ∀ g ∈ gs, (0 ≤ g.1 ∧ g.1 < 65536) ∧ 0 ≤ g.2 ∧ g.2 < 65536) : gapsAt (pre ++ (gB gs ++ ys)) m gs.length = gs := by
  unfold gapsAt
  apply List.ext_getElem (by simp)
  intro j h1 h2
  have hj : j < gs.length := h2
  have hr := hg _ (List.getElem_mem hj)
  have e : pre ++ (gB gs ++ ys) = (pre ++ gB (gs.take j)) ++ (b16 gs[j].1 ++ (b16 gs[j].2 ++ (gB (gs.drop (j + 1)) ++ ys))) := by rw [gB_at gs j hj]; simp only [List.append_assoc]
  have e2 : pre ++ (gB gs ++ ys) = (pre ++ (gB (gs.take j) ++ b16 gs[j].1)) ++ (b16 gs[j].2 ++ (gB (gs.drop (j + 1)) ++ ys)) := by rw [e]; simp only [List.append_assoc]
  have k1 := at2_app (pre := pre ++ gB (gs.take j)) (x := gs[j].1) (ys := b16 gs[j].2 ++ (gB (gs.drop (j + 1)) ++ ys)) (m := m + 4 * j) (by rw [List.length_append, gB_len, List.length_take]; omega) hr.1
  have k2 := at2_app (pre := pre ++ (gB (gs.take j) ++ b16 gs[j].1)) (x := gs[j].2) (ys := gB (gs.drop (j + 1)) ++ ys) (m := m + 4 * j + 2) (by rw [List.length_append, List.length_append, gB_len, b16_len, List.length_take]; omega) hr.2
  rw [List.getElem_map, List.getElem_range]
  rw [← e] at k1
  rw [← e2] at k2
  rw [k1, k2]
theorem dups_of {pre : List Int} {m : Nat} (hm : pre.length = m) {gs : List Int} (hg : ∀ g ∈ gs, 0 ≤ g ∧ g < 4294967296) : dupsAt (pre ++ dB gs) m gs.length = gs := by
  unfold dupsAt
  apply List.ext_getElem (by simp)
  intro j h1 h2
  have hj : j < gs.length := h2
  have hr := hg _ (List.getElem_mem hj)
  have e : pre ++ dB gs = (pre ++ dB (gs.take j)) ++ (b32 gs[j] ++ dB (gs.drop (j + 1))) := by rw [dB_at gs j hj]; simp only [List.append_assoc]
  have k1 := at4_app (pre := pre ++ dB (gs.take j)) (x := gs[j]) (ys := dB (gs.drop (j + 1))) (m := m + 4 * j) (by rw [List.length_append, dB_len, List.length_take]; omega) hr
  rw [List.getElem_map, List.getElem_range]
  rw [← e] at k1
  rw [k1]
theorem skips_of {t : Int} {gs : List (Int × Bool × Int)} (hg : ∀ g ∈ gs, (0 ≤ g.1 ∧ g.1 < 65536) ∧ 0 ≤ g.2.2 ∧ g.2.2 < 4294967296) : skipsAt (b32 t ++ sB gs) gs.length = gs.map fun s => (s.1, false, s.2.2 % 65536) := by
  unfold skipsAt
  apply List.ext_getElem (by simp)
  intro j h1 h2
  have hj : j < gs.length := by simpa using h2
  have hr := hg _ (List.getElem_mem hj)
  have e : b32 t ++ sB gs = (b32 t ++ sB (gs.take j)) ++ (b16 gs[j].1 ++ (b16 (gs[j].2.2 % 65536) ++ sB (gs.drop (j + 1)))) := by rw [sB_at gs j hj]; simp only [List.append_assoc]
  have e2 : b32 t ++ sB gs = (b32 t ++ (sB (gs.take j) ++ b16 gs[j].1)) ++ (b16 (gs[j].2.2 % 65536) ++ sB (gs.drop (j + 1))) := by rw [e]; simp only [List.append_assoc]
  have k1 := at2_app (pre := b32 t ++ sB (gs.take j)) (x := gs[j].1) (ys := b16 (gs[j].2.2 % 65536) ++ sB (gs.drop (j + 1))) (m := 4 + 4 * j) (by rw [List.length_append, sB_len, b32_len, List.length_take]; omega) hr.1
  have k2 := at2_app (pre := b32 t ++ (sB (gs.take j) ++ b16 gs[j].1)) (x := gs[j].2.2 % 65536) (ys := sB (gs.drop (j + 1))) (m := 4 + 4 * j + 2) (by rw [List.length_append, List.length_append, sB_len, b16_len, b32_len, List.length_take]; omega) (by omega)
  rw [List.getElem_map, List.getElem_range, List.getElem_map]
  rw [← e] at k1
  rw [← e2] at k2
  rw [k1, k2]
theorem bt_eq (l : Bool) : (bt l 1 == 1) = l := by cases l <;> decide
theorem skips_it {t : Int} {gs : List (Int × Bool × Int)} (hg : ∀ g ∈ gs, (0 ≤ g.1 ∧ g.1 < 65536) ∧ 0 ≤ g.2.2 ∧ g.2.2 < 4294967296) : skipsIt (b32 t ++ tB gs) gs.length = gs := by
  unfold skipsIt
  apply List.ext_getElem (by simp)
  intro j h1 h2
  have hj : j < gs.length := by simpa using h2
  have hr := hg _ (List.getElem_mem hj)
  have hb := bt_rng1 gs[j].2.1 1 (by omega)
  have e : b32 t ++ tB gs = (b32 t ++ tB (gs.take j)) ++ (b16 gs[j].1 ++ (b16 (bt gs[j].2.1 1) ++ (b32 gs[j].2.2 ++ tB (gs.drop (j + 1))))) := by rw [tB_split gs j hj]; simp only [List.append_assoc]
  have e2 : b32 t ++ tB gs = (b32 t ++ (tB (gs.take j) ++ b16 gs[j].1)) ++ (b16 (bt gs[j].2.1 1) ++ (b32 gs[j].2.2 ++ tB (gs.drop (j + 1)))) := by rw [e]; simp only [List.append_assoc]
  have e3 : b32 t ++ tB gs = (b32 t ++ (tB (gs.take j) ++ (b16 gs[j].1 ++ b16 (bt gs[j].2.1 1)))) ++ (b32 gs[j].2.2 ++ tB (gs.drop (j + 1))) := by rw [e]; simp only [List.append_assoc]
  have k1 := at2_app (pre := b32 t ++ tB (gs.take j)) (x := gs[j].1) (ys := b16 (bt gs[j].2.1 1) ++ (b32 gs[j].2.2 ++ tB (gs.drop (j + 1)))) (m := 4 + 8 * j) (by rw [List.length_append, tB_len, b32_len, List.length_take]; omega) hr.1
  have k2 := at2_app (pre := b32 t ++ (tB (gs.take j) ++ b16 gs[j].1)) (x := bt gs[j].2.1 1) (ys := b32 gs[j].2.2 ++ tB (gs.drop (j + 1))) (m := 4 + 8 * j + 2) (by rw [List.length_append, List.length_append, tB_len, b16_len, b32_len, List.length_take]; omega) (by omega)
  have k3 := at4_app (pre := b32 t ++ (tB (gs.take j) ++ (b16 gs[j].1 ++ b16 (bt gs[j].2.1 1)))) (x := gs[j].2.2) (ys := tB (gs.drop (j + 1))) (m := 4 + 8 * j + 4) (by simp only [List.length_append, tB_len, b16_len, b32_len, List.length_take]; omega) hr.2
  rw [List.getElem_map, List.getElem_range]
  rw [← e] at k1
  rw [← e2] at k2
  rw [← e3] at k3
  rw [k1, k2, k3, bt_eq]
theorem at2_top {pre ys : List Int} {x : Int} {m : Nat} {xs : List Int} (e : xs = pre ++ (b16 x ++ ys)) (hm : pre.length = m) (hx : 0 ≤ x ∧ x < 65536) : at2 xs m = x := by rw [e]; exact at2_app hm hx
theorem at4_top {pre ys : List Int} {x : Int} {m : Nat} {xs : List Int} (e : xs = pre ++ (b32 x ++ ys)) (hm : pre.length = m) (hx : 0 ≤ x ∧ x < 4294967296) : at4 xs m = x := by rw [e]; exact at4_app hm hx
theorem fl_data {c : Ck} (h : c.k = 0 ∨ c.k = 64) : fl c = bt c.e 1 + bt c.b 2 + bt c.l 4 := by unfold fl; rw [if_pos h]
theorem got_ck {c : Ck} (hB : CkB c) (hE : cE c = 0) : rC c.k (fl c) (bB c) = strip c := by
  obtain ⟨hk, hb, hl⟩ := cE_parts hE
  simp [kn] at hk
  rcases hk with hk | hk | hk | hk | hk | hk | hk | hk | hk | hk | hk | hk | hk | hk | hk | hk | hk
  · have e : bB c = b32 c.tsn ++ (b16 c.st ++ (b16 (c.mid % 65536) ++ (b32 c.pp ++ c.body))) := by simp [bB, hk]
    obtain ⟨f1, f2, f3⟩ := fl3 c.e c.b c.l
    have a0 := at4_top (pre := []) (m := 0) e rfl hB.tsn
    have a4 := at2_top (pre := b32 c.tsn) (m := 4) e rfl hB.st
    have a6 := at2_top (pre := b32 c.tsn ++ b16 c.st) (m := 6) (xs := bB c) (x := c.mid % 65536) (ys := b32 c.pp ++ c.body) (by rw [e]; simp only [List.append_assoc]) rfl (by omega)
    have a8 := at4_top (pre := b32 c.tsn ++ (b16 c.st ++ b16 (c.mid % 65536))) (m := 8) (xs := bB c) (x := c.pp) (ys := c.body) (by rw [e]; simp only [List.append_assoc]) rfl hB.pp
    have a12 : (bB c).drop 12 = c.body := by rw [e]; rfl
    unfold rC strip
    rw [if_pos hk, if_pos hk, fl_data (.inl hk), f1, f2, f3, a0, a4, a6, a8, a12]
  · have e : bB c = b32 c.tag ++ (b32 c.win ++ (b16 c.out ++ (b16 c.inn ++ (b32 c.tsn ++ enc c.ps)))) := by simp [bB, hk]
    have hd := dec_put hB hb (by omega)
    have a0 := at4_top (pre := []) (m := 0) e rfl hB.tag
    have a4 := at4_top (pre := b32 c.tag) (m := 4) e rfl hB.win
    have a8 := at2_top (pre := b32 c.tag ++ b32 c.win) (m := 8) (xs := bB c) (x := c.out) (ys := b16 c.inn ++ (b32 c.tsn ++ enc c.ps)) (by rw [e]; simp only [List.append_assoc]) rfl hB.out
    have a10 := at2_top (pre := b32 c.tag ++ (b32 c.win ++ b16 c.out)) (m := 10) (xs := bB c) (x := c.inn) (ys := b32 c.tsn ++ enc c.ps) (by rw [e]; simp only [List.append_assoc]) rfl hB.inn
    have a12 := at4_top (pre := b32 c.tag ++ (b32 c.win ++ (b16 c.out ++ b16 c.inn))) (m := 12) (xs := bB c) (x := c.tsn) (ys := enc c.ps) (by rw [e]; simp only [List.append_assoc]) rfl hB.tsn
    have a16 : (bB c).drop 16 = enc c.ps := by rw [e]; rfl
    unfold rC strip
    rw [a0, a4, a8, a10, a12, a16, hd]
    simp [hk]
  · have e : bB c = b32 c.tag ++ (b32 c.win ++ (b16 c.out ++ (b16 c.inn ++ (b32 c.tsn ++ enc c.ps)))) := by simp [bB, hk]
    have hd := dec_put hB hb (by omega)
    have a0 := at4_top (pre := []) (m := 0) e rfl hB.tag
    have a4 := at4_top (pre := b32 c.tag) (m := 4) e rfl hB.win
    have a8 := at2_top (pre := b32 c.tag ++ b32 c.win) (m := 8) (xs := bB c) (x := c.out) (ys := b16 c.inn ++ (b32 c.tsn ++ enc c.ps)) (by rw [e]; simp only [List.append_assoc]) rfl hB.out
    have a10 := at2_top (pre := b32 c.tag ++ (b32 c.win ++ b16 c.out)) (m := 10) (xs := bB c) (x := c.inn) (ys := b32 c.tsn ++ enc c.ps) (by rw [e]; simp only [List.append_assoc]) rfl hB.inn
    have a12 := at4_top (pre := b32 c.tag ++ (b32 c.win ++ (b16 c.out ++ b16 c.inn))) (m := 12) (xs := bB c) (x := c.tsn) (ys := enc c.ps) (by rw [e]; simp only [List.append_assoc]) rfl hB.tsn
    have a16 : (bB c).drop 16 = enc c.ps := by rw [e]; rfl
    unfold rC strip
    rw [a0, a4, a8, a10, a12, a16, hd]
    simp [hk]
  · have e : bB c = b32 c.tsn ++ (b32 c.win ++ (b16 c.gaps.length ++ (b16 c.dups.length ++ (gB c.gaps ++ dB c.dups)))) := by simp [bB, hk]
    have hgd : ¬ (65535 < c.gaps.length ∨ 65535 < c.dups.length) := by intro h; unfold bE at hb; rw [if_neg (by omega), if_pos hk, if_pos h] at hb; cases hb
    have a0 := at4_top (pre := []) (m := 0) e rfl hB.tsn
    have a4 := at4_top (pre := b32 c.tsn) (m := 4) e rfl hB.win
    have a8 := at2_top (pre := b32 c.tsn ++ b32 c.win) (m := 8) (xs := bB c) (x := (c.gaps.length : Int)) (ys := b16 c.dups.length ++ (gB c.gaps ++ dB c.dups)) (by rw [e]; simp only [List.append_assoc]) rfl (by omega)
    have a10 := at2_top (pre := b32 c.tsn ++ (b32 c.win ++ b16 c.gaps.length)) (m := 10) (xs := bB c) (x := (c.dups.length : Int)) (ys := gB c.gaps ++ dB c.dups) (by rw [e]; simp only [List.append_assoc]) rfl (by omega)
    have ag := gaps_of (pre := b32 c.tsn ++ (b32 c.win ++ (b16 c.gaps.length ++ b16 c.dups.length))) (ys := dB c.dups) (m := 12) rfl hB.gaps
    have ad := dups_of (pre := b32 c.tsn ++ (b32 c.win ++ (b16 c.gaps.length ++ (b16 c.dups.length ++ gB c.gaps)))) (m := 12 + 4 * c.gaps.length) (by simp only [List.length_append, b32_len, b16_len, gB_len]; omega) hB.dups
    have eg : b32 c.tsn ++ (b32 c.win ++ (b16 c.gaps.length ++ b16 c.dups.length)) ++ (gB c.gaps ++ dB c.dups) = bB c := by rw [e]; simp only [List.append_assoc]
    have ed : b32 c.tsn ++ (b32 c.win ++ (b16 c.gaps.length ++ (b16 c.dups.length ++ gB c.gaps))) ++ dB c.dups = bB c := by rw [e]; simp only [List.append_assoc]
    rw [eg] at ag
    rw [ed] at ad
    unfold rC strip
    rw [a0, a4, a8, a10, Int.toNat_natCast, Int.toNat_natCast, ag, ad]
    simp [hk]
  · have e : bB c = c.body := by simp [bB, hk]
    unfold rC strip
    rw [e]
    simp [hk]
  · have e : bB c = c.body := by simp [bB, hk]
    unfold rC strip
    rw [e]
    simp [hk]
  · have e : bB c = enc c.ps := by simp [bB, hk]
    have hd := dec_put hB hb (by omega)
    have f1 := fl1 c.r
    unfold rC strip
    rw [e, hd, fl_bare (.inl hk), f1]
    simp [hk]
  · have e : bB c = b32 c.tsn ++ [] := by simp [bB, hk]
    have a0 := at4_top (pre := []) (m := 0) e rfl hB.tsn
    unfold rC strip
    rw [a0]
    simp [hk]
  · unfold rC strip
    simp [hk]
  · have e : bB c = enc c.ps := by simp [bB, hk]
    have hd := dec_put hB hb (by omega)
    unfold rC strip
    rw [e, hd]
    simp [hk]
  · have e : bB c = c.body := by simp [bB, hk]
    unfold rC strip
    rw [e]
    simp [hk]
  · unfold rC strip
    simp [hk]
  · have f1 := fl1 c.r
    unfold rC strip
    rw [fl_bare (.inr hk), f1]
    simp [hk]
  · have e : bB c = b32 c.tsn ++ (b16 c.st ++ (b16 0 ++ (b32 c.mid ++ (b32 (if c.b then c.pp else c.fr) ++ c.body)))) := by simp [bB, hk]
    obtain ⟨f1, f2, f3⟩ := fl3 c.e c.b c.l
    have a0 := at4_top (pre := []) (m := 0) e rfl hB.tsn
    have a4 := at2_top (pre := b32 c.tsn) (m := 4) e rfl hB.st
    have a8 := at4_top (pre := b32 c.tsn ++ (b16 c.st ++ b16 0)) (m := 8) (xs := bB c) (x := c.mid) (ys := b32 (if c.b then c.pp else c.fr) ++ c.body) (by rw [e]; simp only [List.append_assoc]) rfl hB.mid
    have a12 := at4_top (pre := b32 c.tsn ++ (b16 c.st ++ (b16 0 ++ b32 c.mid))) (m := 12) (xs := bB c) (x := if c.b then c.pp else c.fr) (ys := c.body) (by rw [e]; simp only [List.append_assoc]) rfl (by have h1 := hB.pp; have h2 := hB.fr; split <;> assumption)
    have a16 : (bB c).drop 16 = c.body := by rw [e]; rfl
    unfold rC strip
    rw [fl_data (.inr hk), f1, f2, f3, a0, a4, a8, a12, a16]
    cases c.b <;> simp [hk]
  · have e : bB c = enc c.ps := by simp [bB, hk]
    have hd := dec_put hB hb (by omega)
    unfold rC strip
    rw [e, hd]
    simp [hk]
  · have e : bB c = b32 c.tsn ++ sB c.skips := by simp [bB, hk]
    have a0 := at4_top (pre := []) (m := 0) e rfl hB.tsn
    have hle : ((bB c).length - 4) / 4 = c.skips.length := by rw [e]; simp only [List.length_append, b32_len, sB_len]; omega
    have hss := skips_of (t := c.tsn) hB.skips
    rw [← e] at hss
    unfold rC strip
    rw [a0, hle, hss]
    simp [hk]
  · have e : bB c = b32 c.tsn ++ tB c.skips := by simp [bB, hk]
    have a0 := at4_top (pre := []) (m := 0) e rfl hB.tsn
    have hle : ((bB c).length - 4) / 8 = c.skips.length := by rw [e]; simp only [List.length_append, b32_len, tB_len]; omega
    have hss := skips_it (t := c.tsn) hB.skips
    rw [← e] at hss
    unfold rC strip
    rw [a0, hle, hss]
    simp [hk]
theorem strip_k (c : Ck) : (strip c).k = c.k := by
  unfold strip
  simp only [apply_ite Ck.k, zC, ite_self]
theorem rC_k (k f : Int) (xs : List Int) : (rC k f xs).k = k := by
  unfold rC
  simp only [apply_ite Ck.k, zC, ite_self]
end Go.Proofs.Ytaifihoheieneaa.Chk
