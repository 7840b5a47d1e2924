/- Parameters as bytes, and bytes as parameters: plain laws on lists of numbers. -/
import Derived.Test.YtaifihoheieneaaSl
namespace Go.Proofs.Ytaifihoheieneaa.Prm
open Go.Proofs.Ytaifihoheieneaa.Octet
set_option linter.unusedVariables false
set_option linter.unusedSimpArgs false
/-- A parameter: its kind, its bytes. -/
abbrev Pm := Int × List Int
def pz (n : Nat) : Nat := (4 - n % 4) % 4
def encP (p : Pm) : List Int := [p.1 / 256 % 256, p.1 % 256, ((p.2.length + 4 : Nat) : Int) / 256 % 256, ((p.2.length + 4 : Nat) : Int) % 256] ++ (p.2 ++ List.replicate (pz p.2.length) 0)
def enc : List Pm → List Int
  | [] => []
  | p :: ps => encP p ++ enc ps
/-- A parameter that can be put. -/
def Fit (p : Pm) : Prop := 0 ≤ p.1 ∧ p.1 < 65536 ∧ IsB p.2 ∧ p.2.length ≤ 65531
def all (n : Nat) : Nat := (n + 3) / 4 * 4
def at_ (bs : List Int) (i : Nat) : Int := bs.getD i 0
/-- The first parameter of bytes, and how many bytes it has; or the error. -/
def one (bs : List Int) : Except Int (Pm × Nat) :=
  if bs.length < 4 then .error 40 else
  if (256 * at_ bs 2 + at_ bs 3).toNat < 4 then .error 42 else
  if bs.length < all (256 * at_ bs 2 + at_ bs 3).toNat then .error 40 else
  if ((bs.take (all (256 * at_ bs 2 + at_ bs 3).toNat)).drop (256 * at_ bs 2 + at_ bs 3).toNat).any (fun x => x != 0) then .error 42 else
  .ok ((256 * at_ bs 0 + at_ bs 1, (bs.take (256 * at_ bs 2 + at_ bs 3).toNat).drop 4), all (256 * at_ bs 2 + at_ bs 3).toNat)
/-- Parameters got ahead of others. -/
def comb (out : List Pm) (r : List Pm × Int) : List Pm × Int := if r.2 = 0 then (out ++ r.1, 0) else ([], r.2)
def decN : Nat → List Int → List Pm × Int
  | 0, _ => ([], 0)
  | f + 1, bs => if bs = [] then ([], 0) else match one bs with
    | .error e => ([], e)
    | .ok (p, m) => comb [p] (decN f (bs.drop m))
def dec (bs : List Int) : List Pm × Int := decN bs.length bs
theorem one_size {bs : List Int} {p : Pm} {m : Nat} (h : one bs = .ok (p, m)) : 4 ≤ m ∧ m ≤ bs.length := by
  unfold one at h
  split at h
  · cases h
  split at h
  · cases h
  split at h
  · cases h
  split at h
  · cases h
  · injection h with h
    injection h with _ h
    subst h
    unfold all at *
    omega
theorem decN_more : ∀ (f g : Nat) (bs : List Int), bs.length ≤ f → bs.length ≤ g → decN f bs = decN g bs
  | 0, 0, bs, _, _ => rfl
  | 0, g + 1, bs, h, _ => by
    have : bs = [] := List.eq_nil_of_length_eq_zero (by omega)
    subst this; simp [decN]
  | f + 1, 0, bs, _, h => by
    have : bs = [] := List.eq_nil_of_length_eq_zero (by omega)
    subst this; simp [decN]
  | f + 1, g + 1, bs, h1, h2 => by
    simp only [decN]
    split
    · rfl
    · split
      · rfl
      · rename_i p m hm
        have := one_size hm
        rw [decN_more f g (bs.drop m) (by rw [List.length_drop]; omega) (by rw [List.length_drop]; omega)]
theorem dec_nil : dec [] = ([], 0) := rfl
theorem dec_err {bs : List Int} {e : Int} (h0 : bs ≠ []) (h : one bs = .error e) : dec bs = ([], e) := by
  unfold dec
  cases bs with
  | nil => exact absurd rfl h0
  | cons x xs => simp [decN, h]
theorem dec_ok {bs : List Int} {p : Pm} {m : Nat} (h : one bs = .ok (p, m)) : dec bs = comb [p] (dec (bs.drop m)) := by
  have hs := one_size h
  have : dec bs = decN (bs.length - 1 + 1) bs := by unfold dec; congr 1; omega
  rw [this]
  simp only [decN, h]
  rw [if_neg (by intro e; subst e; simp at hs; omega)]
  congr 1
  exact decN_more _ _ _ (by rw [List.length_drop]; omega) (by rw [List.length_drop]; omega)
theorem comb_comb (a b : List Pm) (r : List Pm × Int) : comb a (comb b r) = comb (a ++ b) r := by
  unfold comb
  by_cases h : r.2 = 0 <;> simp [h]
theorem comb_nil (r : List Pm × Int) (h : r.2 ≠ 0 → r.1 = []) : comb [] r = r := by
  unfold comb
  obtain ⟨a, b⟩ := r
  by_cases hb : b = 0
  · simp [hb]
  · simp [hb]; exact h hb
theorem decN_bad : ∀ (f : Nat) (bs : List Int), (decN f bs).2 ≠ 0 → (decN f bs).1 = []
  | 0, bs, h => absurd rfl h
  | f + 1, bs, h => by
    simp only [decN] at h ⊢
    split
    · rfl
    · rename_i h0
      rw [if_neg h0] at h
      split
      · rfl
      · rename_i p m hm
        rw [hm] at h
        simp only [comb] at h ⊢
        split
        · rename_i h2; simp [h2] at h
        · rfl
theorem dec_bad {bs : List Int} (h : (dec bs).2 ≠ 0) : (dec bs).1 = [] := decN_bad _ _ h
theorem encP_len (p : Pm) : (encP p).length = all (p.2.length + 4) := by
  simp [encP, all, pz]; omega
theorem all_add (n : Nat) : all (n + 4) = n + pz n + 4 := by unfold all pz; omega
/-- What one parameter put is got as. -/
theorem one_enc {p : Pm} (h : Fit p) (rest : List Int) : one (encP p ++ rest) = .ok (p, (encP p).length) := by
  obtain ⟨h0, h1, h2, h3⟩ := h
  have e0 : at_ (encP p ++ rest) 0 = p.1 / 256 % 256 := rfl
  have e1 : at_ (encP p ++ rest) 1 = p.1 % 256 := rfl
  have e2 : at_ (encP p ++ rest) 2 = ((p.2.length + 4 : Nat) : Int) / 256 % 256 := rfl
  have e3 : at_ (encP p ++ rest) 3 = ((p.2.length + 4 : Nat) : Int) % 256 := rfl
  have en : (256 * at_ (encP p ++ rest) 2 + at_ (encP p ++ rest) 3).toNat = p.2.length + 4 := by rw [e2, e3]; omega
  have ek : 256 * at_ (encP p ++ rest) 0 + at_ (encP p ++ rest) 1 = p.1 := by rw [e0, e1]; omega
  have hl := encP_len p
  have ha := all_add p.2.length
  have hlen : (encP p ++ rest).length = all (p.2.length + 4) + rest.length := by rw [List.length_append, hl]
  unfold one
  rw [en, ek, if_neg (by omega), if_neg (by omega), if_neg (by omega)]
  have t1 : (encP p ++ rest).take (all (p.2.length + 4)) = encP p := by rw [← hl, List.take_left]
  have t2 : (encP p).drop (p.2.length + 4) = List.replicate (pz p.2.length) 0 := by
    unfold encP
    rw [← List.append_assoc, List.drop_append_of_le_length (by simp), List.drop_of_length_le (by simp), List.nil_append]
  have t3 : (encP p ++ rest).take (p.2.length + 4) = (encP p).take (p.2.length + 4) := List.take_append_of_le_length (by omega)
  have t4 : ((encP p).take (p.2.length + 4)).drop 4 = p.2 := by
    unfold encP
    rw [← List.append_assoc, List.take_append_of_le_length (by simp), List.take_of_length_le (by simp)]
    rfl
  rw [t1, t2, if_neg (by simp), t3, t4, hl]
theorem enc_app (a b : List Pm) : enc (a ++ b) = enc a ++ enc b := by
  induction a with
  | nil => rfl
  | cons p a ih => simp [enc, ih, List.append_assoc]
theorem dec_enc {ps : List Pm} (h : ∀ p ∈ ps, Fit p) (rest : List Int) : dec (enc ps ++ rest) = comb ps (dec rest) := by
  induction ps with
  | nil => rw [comb_nil _ dec_bad]; rfl
  | cons p ps ih =>
    have h1 := h p (by simp)
    have ih := ih (fun q hq => h q (List.mem_cons_of_mem _ hq))
    have e : enc (p :: ps) ++ rest = encP p ++ (enc ps ++ rest) := by simp [enc, List.append_assoc]
    rw [e, dec_ok (one_enc h1 _), List.drop_left, ih, comb_comb]
    rfl
theorem dec_all {ps : List Pm} (h : ∀ p ∈ ps, Fit p) : dec (enc ps) = (ps, 0) := by
  have := dec_enc h []
  rw [List.append_nil] at this
  rw [this, dec_nil]
  simp [comb]
theorem isb_take {xs : List Int} (h : IsB xs) (n : Nat) : IsB (xs.take n) := fun x hx => h x (List.mem_of_mem_take hx)
theorem isb_drop {xs : List Int} (h : IsB xs) (n : Nat) : IsB (xs.drop n) := fun x hx => h x (List.mem_of_mem_drop hx)
theorem at_rng {bs : List Int} (h : IsB bs) (i : Nat) : 0 ≤ at_ bs i ∧ at_ bs i < 256 := by
  unfold at_
  by_cases hi : i < bs.length
  · have := h _ (List.getElem_mem hi); simpa [hi] using this
  · simp [Nat.not_lt.1 hi]
theorem zeros_of {xs : List Int} (h : xs.any (fun x => x != 0) = false) : xs = List.replicate xs.length 0 := by
  apply List.eq_replicate_iff.2
  refine ⟨rfl, fun x hx => ?_⟩
  have := List.any_eq_false.1 h x hx
  simpa using this
theorem take_four (bs : List Int) (h : 4 ≤ bs.length) : bs.take 4 = [at_ bs 0, at_ bs 1, at_ bs 2, at_ bs 3] := by
  match bs, h with
  | a :: b :: c :: d :: t, _ => rfl
/-- What was got is put as the same bytes. -/
theorem enc_one {bs : List Int} {p : Pm} {m : Nat} (hb : IsB bs) (h : one bs = .ok (p, m)) : Fit p ∧ encP p = bs.take m := by
  have hs := one_size h
  unfold one at h
  have r0 := at_rng hb 0
  have r1 := at_rng hb 1
  have r2 := at_rng hb 2
  have r3 := at_rng hb 3
  split at h
  · cases h
  split at h
  · cases h
  split at h
  · cases h
  split at h
  · cases h
  rename_i g1 g2 g3 g4
  injection h with h
  injection h with h5 h6
  subst h5
  generalize hn : (256 * at_ bs 2 + at_ bs 3).toNat = n at *
  subst h6
  have ha : n ≤ all n ∧ all n < n + 4 := by unfold all; omega
  have hv : ((bs.take n).drop 4).length = n - 4 := by rw [List.length_drop, List.length_take]; omega
  have hpz : all n - n = pz (n - 4) := by unfold all pz; omega
  refine ⟨⟨by show 0 ≤ 256 * at_ bs 0 + at_ bs 1; omega, by show 256 * at_ bs 0 + at_ bs 1 < 65536; omega, isb_drop (isb_take hb _) _, by show ((bs.take n).drop 4).length ≤ 65531; omega⟩, ?_⟩
  unfold encP
  rw [hv, show n - 4 + 4 = n by omega]
  have z := zeros_of (Bool.eq_false_iff.2 g4)
  have zl : ((bs.take (all n)).drop n).length = pz (n - 4) := by rw [List.length_drop, List.length_take]; omega
  rw [zl] at z
  rw [← z]
  have f : [(256 * at_ bs 0 + at_ bs 1) / 256 % 256, (256 * at_ bs 0 + at_ bs 1) % 256, ((n : Nat) : Int) / 256 % 256, ((n : Nat) : Int) % 256] = bs.take 4 := by
    rw [take_four bs (by omega)]
    have : (n : Int) = 256 * at_ bs 2 + at_ bs 3 := by omega
    rw [this]
    congr 1
    · omega
    · congr 1
      · omega
      · congr 1
        · omega
        · congr 1
          omega
  show [(256 * at_ bs 0 + at_ bs 1) / 256 % 256, (256 * at_ bs 0 + at_ bs 1) % 256, ((n : Nat) : Int) / 256 % 256, ((n : Nat) : Int) % 256] ++ ((bs.take n).drop 4 ++ (bs.take (all n)).drop n) = _
  rw [f]
  have s1 : bs.take 4 ++ (bs.take n).drop 4 = bs.take n := by
    have := List.take_append_drop 4 (bs.take n)
    rwa [List.take_take, Nat.min_eq_left (by omega)] at this
  have s2 : bs.take n ++ (bs.take (all n)).drop n = bs.take (all n) := by
    have := List.take_append_drop n (bs.take (all n))
    rwa [List.take_take, Nat.min_eq_left (by omega)] at this
  rw [← List.append_assoc, s1, s2]
theorem enc_dec : ∀ (k : Nat) (bs : List Int), bs.length ≤ k → IsB bs → (dec bs).2 = 0 → (∀ p ∈ (dec bs).1, Fit p) ∧ enc (dec bs).1 = bs
  | 0, bs, hk, hb, h => by
    have : bs = [] := List.eq_nil_of_length_eq_zero (by omega)
    subst this
    exact ⟨fun p hp => by simp [dec_nil] at hp, rfl⟩
  | k + 1, bs, hk, hb, h => by
    by_cases h0 : bs = []
    · subst h0
      exact ⟨fun p hp => by simp [dec_nil] at hp, rfl⟩
    · cases ho : one bs with
      | error e =>
        rw [dec_err h0 ho] at h
        exfalso
        have h' : e = 0 := h
        subst h'
        unfold one at ho
        split at ho
        · cases ho
        split at ho
        · cases ho
        split at ho
        · cases ho
        split at ho <;> cases ho
      | ok r =>
        obtain ⟨p, m⟩ := r
        have hs := one_size ho
        obtain ⟨f1, f2⟩ := enc_one hb ho
        rw [dec_ok ho] at h ⊢
        have h2 : (dec (bs.drop m)).2 = 0 := by
          unfold comb at h
          by_cases h3 : (dec (bs.drop m)).2 = 0
          · exact h3
          · rw [if_neg h3] at h; exact h
        have ih := enc_dec k (bs.drop m) (by rw [List.length_drop]; omega) (isb_drop hb _) h2
        have e : comb [p] (dec (bs.drop m)) = (p :: (dec (bs.drop m)).1, 0) := by simp [comb, h2]
        rw [e]
        refine ⟨fun q hq => ?_, ?_⟩
        · rcases List.mem_cons.1 hq with rfl | hq
          · exact f1
          · exact ih.1 q hq
        · show encP p ++ enc (dec (bs.drop m)).1 = bs
          rw [f2, ih.2, List.take_append_drop]
/-- Bytes that are parameters, ahead of others. -/
theorem dec_join {a b : List Int} (ha : IsB a) (h : (dec a).2 = 0) : dec (a ++ b) = comb (dec a).1 (dec b) := by
  obtain ⟨h1, h2⟩ := enc_dec a.length a (Nat.le_refl _) ha h
  have := dec_enc h1 b
  rwa [h2] at this
theorem encP_pos (p : Pm) : 4 ≤ (encP p).length := by rw [encP_len, all_add]; omega
/-- A parameter cut off. -/
theorem one_cut {p : Pm} (h : Fit p) (j : Nat) (hj : j < (encP p).length) : one ((encP p).take j) = .error 40 := by
  unfold one
  have hl : ((encP p).take j).length = j := by rw [List.length_take]; omega
  rw [hl]
  by_cases h4 : j < 4
  · rw [if_pos h4]
  · have g : ∀ i, i < 4 → at_ ((encP p).take j) i = at_ (encP p) i := fun i hi => by
      unfold at_
      simp only [List.getD, List.getElem?_take, if_pos (show i < j by omega)]
    have e2 : at_ (encP p) 2 = ((p.2.length + 4 : Nat) : Int) / 256 % 256 := rfl
    have e3 : at_ (encP p) 3 = ((p.2.length + 4 : Nat) : Int) % 256 := rfl
    have en : (256 * at_ ((encP p).take j) 2 + at_ ((encP p).take j) 3).toNat = p.2.length + 4 := by
      rw [g 2 (by decide), g 3 (by decide), e2, e3]
      have := h.2.2.2
      omega
    rw [if_neg h4, en, if_neg (by omega), if_pos (by rw [← encP_len]; exact hj)]
/-- Where the first n parameters end. -/
def pend (ps : List Pm) (n : Nat) : Nat := (enc (ps.take n)).length
theorem pend_succ (ps : List Pm) (n : Nat) (h : n < ps.length) : pend ps (n + 1) = pend ps n + all (ps[n].2.length + 4) := by
  unfold pend
  rw [List.take_add_one, List.getElem?_eq_getElem h, enc_app, List.length_append]
  congr 1
  show (encP ps[n] ++ enc []).length = _
  rw [show enc [] = [] from rfl, List.append_nil, encP_len]
theorem pend_all (ps : List Pm) : pend ps ps.length = (enc ps).length := by unfold pend; rw [List.take_length]
theorem pend_mono (ps : List Pm) {m n : Nat} (h : m < n) (hn : n ≤ ps.length) : pend ps m < pend ps n := by
  induction n with
  | zero => omega
  | succ n ih =>
    have e := pend_succ ps n (by omega)
    have a := all_add (ps[n].2.length)
    rcases Nat.lt_succ_iff_lt_or_eq.1 h with h | rfl
    · have := ih h (by omega); omega
    · omega
theorem take_pend (ps : List Pm) (n : Nat) (hn : n ≤ ps.length) : (enc ps).take (pend ps n) = enc (ps.take n) := by
  have : enc ps = enc (ps.take n) ++ enc (ps.drop n) := by rw [← enc_app, List.take_append_drop]
  rw [this, pend, List.take_left]
/-- Bytes of parameters cut off at an end, or within one. -/
theorem dec_cut {ps : List Pm} (h : ∀ p ∈ ps, Fit p) {n k : Nat} (hn : n ≤ ps.length) (h1 : pend ps n ≤ k) (h2 : n < ps.length → k < pend ps (n + 1)) (hk : k ≤ (enc ps).length) :
    dec ((enc ps).take k) = if k = pend ps n then (ps.take n, 0) else ([], 40) := by
  have ht : ∀ p ∈ ps.take n, Fit p := fun p hp => h p (List.mem_of_mem_take hp)
  by_cases he : k = pend ps n
  · rw [if_pos he, he, take_pend ps n hn, dec_all ht]
  · rw [if_neg he]
    have hlt : n < ps.length := by
      rcases Nat.lt_or_ge n ps.length with h3 | h3
      · exact h3
      · exfalso
        have : n = ps.length := by omega
        subst this
        rw [pend_all] at h1 he
        omega
    have h2 := h2 hlt
    have e1 : enc ps = enc (ps.take n) ++ (encP ps[n] ++ enc (ps.drop (n + 1))) := by
      have := List.take_append_drop n ps
      rw [List.drop_eq_getElem_cons hlt] at this
      calc enc ps = enc (ps.take n ++ ps[n] :: ps.drop (n + 1)) := by rw [this]
        _ = _ := by rw [enc_app]; rfl
    have e2 := pend_succ ps n hlt
    have l1 : (enc (ps.take n)).length = pend ps n := rfl
    have e3 : (enc ps).take k = enc (ps.take n) ++ (encP ps[n]).take (k - pend ps n) := by
      rw [e1, List.take_append, l1, List.take_of_length_le (by rw [l1]; omega), List.take_append_of_le_length (by rw [encP_len]; omega)]
    have hj : k - pend ps n < (encP ps[n]).length := by rw [encP_len]; omega
    have hpos : 0 < k - pend ps n := by omega
    generalize k - pend ps n = j at hj hpos e3 ⊢
    rw [e3, dec_enc ht]
    have hne : (encP ps[n]).take j ≠ [] := by
      intro e
      have := congrArg List.length e
      rw [List.length_take, List.length_nil] at this
      have := encP_pos ps[n]
      omega
    rw [dec_err hne (one_cut (h _ (List.getElem_mem hlt)) j hj)]
    rfl
end Go.Proofs.Ytaifihoheieneaa.Prm
