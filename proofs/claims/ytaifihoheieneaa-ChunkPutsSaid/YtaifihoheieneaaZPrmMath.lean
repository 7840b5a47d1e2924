/- Parameters as bytes, and bytes as parameters: plain laws on lists of numbers. -/
import Derived.Test.YtaifihoheieneaaZMem
import Derived.Test.YtaifihoheieneaaZOcR
import Derived.Deep.RegionHeldLaw
namespace Go.Proofs.Ytaifihoheieneaa.Prm
open Go.Proofs.Ytaifihoheieneaa.Octet
set_option linter.unusedVariables false
set_option linter.unusedSimpArgs false
/-- A parameter: its kind, its bytes. -/
abbrev Pm := Int × List Int
def pz (n : Nat) : Nat := (4 - n % 4) % 4
def encP (p : Pm) : List Int := [p.1 / 256 % 256, p.1 % 256, ((p.2.length + 4 : Nat) : Int) / 256 % 256, ((p.2.length + 4 : Nat) : Int) % 256] ++ (p.2 ++ List.replicate (pz p.2.length) 0)
def enc : List Pm → List Int
  | [] => []
  | p :: ps => encP p ++ enc ps
/-- A parameter that can be put. -/
def Fit (p : Pm) : Prop := 0 ≤ p.1 ∧ p.1 < 65536 ∧ IsB p.2 ∧ p.2.length ≤ 65531
def all (n : Nat) : Nat := (n + 3) / 4 * 4
def at_ (bs : List Int) (i : Nat) : Int := bs.getD i 0
/-- The first parameter of bytes, and how many bytes it has; or the error. -/
def one (bs : List Int) : Except Int (Pm × Nat) :=
  if bs.length < 4 then .error 40 else
  if (256 * at_ bs 2 + at_ bs 3).toNat < 4 then .error 42 else
  if bs.length < all (256 * at_ bs 2 + at_ bs 3).toNat then .error 40 else
  if ((bs.take (all (256 * at_ bs 2 + at_ bs 3).toNat)).drop (256 * at_ bs 2 + at_ bs 3).toNat).any (fun x => x != 0) then .error 42 else
  .ok ((256 * at_ bs 0 + at_ bs 1, (bs.take (256 * at_ bs 2 + at_ bs 3).toNat).drop 4), all (256 * at_ bs 2 + at_ bs 3).toNat)
/-- Parameters got ahead of others. -/
def comb (out : List Pm) (r : List Pm × Int) : List Pm × Int := if r.2 = 0 then (out ++ r.1, 0) else ([], r.2)
def decN : Nat → List Int → List Pm × Int
  | 0, _ => ([], 0)
  | f + 1, bs => if bs = [] then ([], 0) else match one bs with
    | .error e => ([], e)
    | .ok (p, m) => comb [p] (decN f (bs.drop m))
def dec (bs : List Int) : List Pm × Int := decN bs.length bs
theorem one_size {bs : List Int} {p : Pm} {m : Nat} (h : one bs = .ok (p, m)) : 4 ≤ m ∧ m ≤ bs.length := by
  unfold one at h
  split at h
  · cases h
  split at h
  · cases h
  split at h
  · cases h
  split at h
  · cases h
  · injection h with h
    injection h with _ h
    subst h
    unfold all at *
    omega
theorem decN_more : ∀ (f g : Nat) (bs : List Int), bs.length ≤ f → bs.length ≤ g → decN f bs = decN g bs
  | 0, 0, bs, _, _ => rfl
  | 0, g + 1, bs, h, _ => by
    have : bs = [] := List.eq_nil_of_length_eq_zero (by omega)
    subst this; simp [decN]
  | f + 1, 0, bs, _, h => by
    have : bs = [] := List.eq_nil_of_length_eq_zero (by omega)
    subst this; simp [decN]
  | f + 1, g + 1, bs, h1, h2 => by
    simp only [decN]
    split
    · rfl
    · split
      · rfl
      · rename_i p m hm
        have := one_size hm
        rw [decN_more f g (bs.drop m) (by rw [List.length_drop]; omega) (by rw [List.length_drop]; omega)]
theorem dec_nil : dec [] = ([], 0) := rfl
theorem dec_err {bs : List Int} {e : Int} (h0 : bs ≠ []) (h : one bs = .error e) : dec bs = ([], e) := by
  unfold dec
  cases bs with
  | nil => exact absurd rfl h0
  | cons x xs => simp [decN, h]
theorem dec_ok {bs : List Int} {p : Pm} {m : Nat} (h : one bs = .ok (p, m)) : dec bs = comb [p] (dec (bs.drop m)) := by
  have hs := one_size h
  have : dec bs = decN (bs.length - 1 + 1) bs := by unfold dec; congr 1; omega
  rw [this]
  simp only [decN, h]
  rw [if_neg (by intro e; subst e; simp at hs; omega)]
  congr 1
  exact decN_more _ _ _ (by rw [List.length_drop]; omega) (by rw [List.length_drop]; omega)
theorem comb_comb (a b : List Pm) (r : List Pm × Int) : comb a (comb b r) = comb (a ++ b) r := by
  unfold comb
  by_cases h : r.2 = 0 <;> simp [h]
theorem comb_nil (r : List Pm × Int) (h : r.2 ≠ 0 → r.1 = []) : comb [] r = r := by
  unfold comb
  obtain ⟨a, b⟩ := r
  by_cases hb : b = 0
  · simp [hb]
  · simp [hb]; exact h hb
theorem decN_bad : ∀ (f : Nat) (bs : List Int), (decN f bs).2 ≠ 0 → (decN f bs).1 = []
  | 0, bs, h => absurd rfl h
  | f + 1, bs, h => by
    simp only [decN] at h ⊢
    split
    · rfl
    · rename_i h0
      rw [if_neg h0] at h
      split
      · rfl
      · rename_i p m hm
        rw [hm] at h
        simp only [comb] at h ⊢
        split
        · rename_i h2; simp [h2] at h
        · rfl
theorem dec_bad {bs : List Int} (h : (dec bs).2 ≠ 0) : (dec bs).1 = [] := decN_bad _ _ h
theorem encP_len (p : Pm) : (encP p).length = all (p.2.length + 4) := by
  simp [encP, all, pz]; omega
theorem all_add (n : Nat) : all (n + 4) = n + pz n + 4 := by unfold all pz; omega
/-- What one parameter put is got as. -/
theorem one_enc {p : Pm} (h : Fit p) (rest : List Int) : one (encP p ++ rest) = .ok (p, (encP p).length) := by
  obtain ⟨h0, h1, h2, h3⟩ := h
  have e0 : at_ (encP p ++ rest) 0 = p.1 / 256 % 256 := rfl
  have e1 : at_ (encP p ++ rest) 1 = p.1 % 256 := rfl
  have e2 : at_ (encP p ++ rest) 2 = ((p.2.length + 4 : Nat) : Int) / 256 % 256 := rfl
  have e3 : at_ (encP p ++ rest) 3 = ((p.2.length + 4 : Nat) : Int) % 256 := rfl
  have en : (256 * at_ (encP p ++ rest) 2 + at_ (encP p ++ rest) 3).toNat = p.2.length + 4 := by rw [e2, e3]; omega
  have ek : 256 * at_ (encP p ++ rest) 0 + at_ (encP p ++ rest) 1 = p.1 := by rw [e0, e1]; omega
  have hl := encP_len p
  have ha := all_add p.2.length
  have hlen : (encP p ++ rest).length = all (p.2.length + 4) + rest.length := by rw [List.length_append, hl]
  unfold one
  rw [en, ek, if_neg (by omega), if_neg (by omega), if_neg (by omega)]
  have t1 : (encP p ++ rest).take (all (p.2.length + 4)) = encP p := by rw [← hl, List.take_left]
  have t2 : (encP p).drop (p.2.length + 4) = List.replicate (pz p.2.length) 0 := by
    unfold encP
    rw [← List.append_assoc, List.drop_append_of_le_length (by simp), List.drop_of_length_le (by simp), List.nil_append]
  have t3 : (encP p ++ rest).take (p.2.length + 4) = (encP p).take (p.2.length + 4) := List.take_append_of_le_length (by omega)
  have t4 : ((encP p).take (p.2.length + 4)).drop 4 = p.2 := by
    unfold encP
    rw [← List.append_assoc, List.take_append_of_le_length (by simp), List.take_of_length_le (by simp)]
    rfl
  rw [t1, t2, if_neg (by simp), t3, t4, hl]
theorem enc_app (a b : List Pm) : enc (a ++ b) = enc a ++ enc b := by
  induction a with
  | nil => rfl
  | cons p a ih => simp [enc, ih, List.append_assoc]
theorem dec_enc {ps : List Pm} (h : ∀ p ∈ ps, Fit p) (rest : List Int) : dec (enc ps ++ rest) = comb ps (dec rest) := by
  induction ps with
  | nil => rw [comb_nil _ dec_bad]; rfl
  | cons p ps ih =>
    have h1 := h p (by simp)
    have ih := ih (fun q hq => h q (List.mem_cons_of_mem _ hq))
    have e : enc (p :: ps) ++ rest = encP p ++ (enc ps ++ rest) := by simp [enc, List.append_assoc]
    rw [e, dec_ok (one_enc h1 _), List.drop_left, ih, comb_comb]
    rfl
theorem dec_all {ps : List Pm} (h : ∀ p ∈ ps, Fit p) : dec (enc ps) = (ps, 0) := by
  have := dec_enc h []
  rw [List.append_nil] at this
  rw [this, dec_nil]
  simp [comb]
theorem isb_take {xs : List Int} (h : IsB xs) (n : Nat) : IsB (xs.take n) := fun x hx => h x (List.mem_of_mem_take hx)
theorem isb_drop {xs : List Int} (h : IsB xs) (n : Nat) : IsB (xs.drop n) := fun x hx => h x (List.mem_of_mem_drop hx)
theorem at_rng {bs : List Int} (h : IsB bs) (i : Nat) : 0 ≤ at_ bs i ∧ at_ bs i < 256 := by
  unfold at_
  by_cases hi : i < bs.length
  · have := h _ (List.getElem_mem hi); simpa [hi] using this
  · simp [Nat.not_lt.1 hi]
theorem zeros_of {xs : List Int} (h : xs.any (fun x => x != 0) = false) : xs = List.replicate xs.length 0 := by
  apply List.eq_replicate_iff.2
  refine ⟨rfl, fun x hx => ?_⟩
  have := List.any_eq_false.1 h x hx
  simpa using this
theorem take_four (bs : List Int) (h : 4 ≤ bs.length) : bs.take 4 = [at_ bs 0, at_ bs 1, at_ bs 2, at_ bs 3] := by
  match bs, h with
  | a :: b :: c :: d :: t, _ => rfl
/-- What was got is put as the same bytes. -/
theorem enc_one {bs : List Int} {p : Pm} {m : Nat} (hb : IsB bs) (h : one bs = .ok (p, m)) : Fit p ∧ encP p = bs.take m := by
  have hs := one_size h
  unfold one at h
  have r0 := at_rng hb 0
  have r1 := at_rng hb 1
  have r2 := at_rng hb 2
  have r3 := at_rng hb 3
  split at h
  · cases h
  split at h
  · cases h
  split at h
  · cases h
  split at h
  · cases h
  rename_i g1 g2 g3 g4
  injection h with h
  injection h with h5 h6
  subst h5
  generalize hn : (256 * at_ bs 2 + at_ bs 3).toNat = n at *
  subst h6
  have ha : n ≤ all n ∧ all n < n + 4 := by unfold all; omega
  have hv : ((bs.take n).drop 4).length = n - 4 := by rw [List.length_drop, List.length_take]; omega
  have hpz : all n - n = pz (n - 4) := by unfold all pz; omega
  refine ⟨⟨by show 0 ≤ 256 * at_ bs 0 + at_ bs 1; omega, by show 256 * at_ bs 0 + at_ bs 1 < 65536; omega, isb_drop (isb_take hb _) _, by show ((bs.take n).drop 4).length ≤ 65531; omega⟩, ?_⟩
  unfold encP
  rw [hv, show n - 4 + 4 = n by omega]
  have z := zeros_of (Bool.eq_false_iff.2 g4)
  have zl : ((bs.take (all n)).drop n).length = pz (n - 4) := by rw [List.length_drop, List.length_take]; omega
  rw [zl] at z
  rw [← z]
  have f : [(256 * at_ bs 0 + at_ bs 1) / 256 % 256, (256 * at_ bs 0 + at_ bs 1) % 256, ((n : Nat) : Int) / 256 % 256, ((n : Nat) : Int) % 256] = bs.take 4 := by
    rw [take_four bs (by omega)]
    have : (n : Int) = 256 * at_ bs 2 + at_ bs 3 := by omega
    rw [this]
    congr 1
    · omega
    · congr 1
      · omega
      · congr 1
        · omega
        · congr 1
          omega
  show [(256 * at_ bs 0 + at_ bs 1) / 256 % 256, (256 * at_ bs 0 + at_ bs 1) % 256, ((n : Nat) : Int) / 256 % 256, ((n : Nat) : Int) % 256] ++ ((bs.take n).drop 4 ++ (bs.take (all n)).drop n) = _
  rw [f]
  have s1 : bs.take 4 ++ (bs.take n).drop 4 = bs.take n := by
    have := List.take_append_drop 4 (bs.take n)
    rwa [List.take_take, Nat.min_eq_left (by omega)] at this
  have s2 : bs.take n ++ (bs.take (all n)).drop n = bs.take (all n) := by
    have := List.take_append_drop n (bs.take (all n))
    rwa [List.take_take, Nat.min_eq_left (by omega)] at this
  rw [← List.append_assoc, s1, s2]
theorem enc_dec : ∀ (k : Nat) (bs : List Int), bs.length ≤ k → IsB bs → (dec bs).2 = 0 → (∀ p ∈ (dec bs).1, Fit p) ∧ enc (dec bs).1 = bs
  | 0, bs, hk, hb, h => by
    have : bs = [] := List.eq_nil_of_length_eq_zero (by omega)
    subst this
    exact ⟨fun p hp => by simp [dec_nil] at hp, rfl⟩
  | k + 1, bs, hk, hb, h => by
    by_cases h0 : bs = []
    · subst h0
      exact ⟨fun p hp => by simp [dec_nil] at hp, rfl⟩
    · cases ho : one bs with
      | error e =>
        rw [dec_err h0 ho] at h
        exfalso
        have h' : e = 0 := h
        subst h'
        unfold one at ho
        split at ho
        · cases ho
        split at ho
        · cases ho
        split at ho
        · cases ho
        split at ho <;> cases ho
      | ok r =>
        obtain ⟨p, m⟩ := r
        have hs := one_size ho
        obtain ⟨f1, f2⟩ := enc_one hb ho
        rw [dec_ok ho] at h ⊢
        have h2 : (dec (bs.drop m)).2 = 0 := by
          unfold comb at h
          by_cases h3 : (dec (bs.drop m)).2 = 0
          · exact h3
          · rw [if_neg h3] at h; exact h
        have ih := enc_dec k (bs.drop m) (by rw [List.length_drop]; omega) (isb_drop hb _) h2
        have e : comb [p] (dec (bs.drop m)) = (p :: (dec (bs.drop m)).1, 0) := by simp [comb, h2]
        rw [e]
        refine ⟨fun q hq => ?_, ?_⟩
        · rcases List.mem_cons.1 hq with rfl | hq
          · exact f1
          · exact ih.1 q hq
        · show encP p ++ enc (dec (bs.drop m)).1 = bs
          rw [f2, ih.2, List.take_append_drop]
/-- Bytes that are parameters, ahead of others. -/
theorem dec_join {a b : List Int} (ha : IsB a) (h : (dec a).2 = 0) : dec (a ++ b) = comb (dec a).1 (dec b) := by
  obtain ⟨h1, h2⟩ := enc_dec a.length a (Nat.le_refl _) ha h
  have := dec_enc h1 b
  rwa [h2] at this
theorem encP_pos (p : Pm) : 4 ≤ (encP p).length := by rw [encP_len, all_add]; omega
/-- A parameter cut off. -/
theorem one_cut {p : Pm} (h : Fit p) (j : Nat) (hj : j < (encP p).length) : one ((encP p).take j) = .error 40 := by
  unfold one
  have hl : ((encP p).take j).length = j := by rw [List.length_take]; omega
  rw [hl]
  by_cases h4 : j < 4
  · rw [if_pos h4]
  · have g : ∀ i, i < 4 → at_ ((encP p).take j) i = at_ (encP p) i := fun i hi => by
      unfold at_
      simp only [List.getD, List.getElem?_take, if_pos (show i < j by omega)]
    have e2 : at_ (encP p) 2 = ((p.2.length + 4 : Nat) : Int) / 256 % 256 := rfl
    have e3 : at_ (encP p) 3 = ((p.2.length + 4 : Nat) : Int) % 256 := rfl
    have en : (256 * at_ ((encP p).take j) 2 + at_ ((encP p).take j) 3).toNat = p.2.length + 4 := by
      rw [g 2 (by decide), g 3 (by decide), e2, e3]
      have := h.2.2.2
      omega
    rw [if_neg h4, en, if_neg (by omega), if_pos (by rw [← encP_len]; exact hj)]
/-- Where the first n parameters end. -/
def pend (ps : List Pm) (n : Nat) : Nat := (enc (ps.take n)).length
theorem pend_succ (ps : List Pm) (n : Nat) (h : n < ps.length) : pend ps (n + 1) = pend ps n + all (ps[n].2.length + 4) := by
  unfold pend
  rw [List.take_add_one, List.getElem?_eq_getElem h, enc_app, List.length_append]
  congr 1
  show (encP ps[n] ++ enc []).length = _
  rw [show enc [] = [] from rfl, List.append_nil, encP_len]
theorem pend_all (ps : List Pm) : pend ps ps.length = (enc ps).length := by unfold pend; rw [List.take_length]
theorem pend_mono (ps : List Pm) {m n : Nat} (h : m < n) (hn : n ≤ ps.length) : pend ps m < pend ps n := by
  induction n with
  | zero => omega
  | succ n ih =>
    have e := pend_succ ps n (by omega)
    have a := all_add (ps[n].2.length)
    rcases Nat.lt_succ_iff_lt_or_eq.1 h with h | rfl
    · have := ih h (by omega); omega
    · omega
theorem take_pend (ps : List Pm) (n : Nat) (hn : n ≤ ps.length) : (enc ps).take (pend ps n) = enc (ps.take n) := by
  have : enc ps = enc (ps.take n) ++ enc (ps.drop n) := by rw [← enc_app, List.take_append_drop]
  rw [this, pend, List.take_left]
/-- Bytes of parameters cut off at an end, or within one. -/
theorem dec_cut {ps : List Pm} (h : ∀ p ∈ ps, Fit p) {n k : Nat} (hn : n ≤ ps.length) (h1 : pend ps n ≤ k) (h2 : n < ps.length → k < pend ps (n + 1)) (hk : k ≤ (enc ps).length) :
    dec ((enc ps).take k) = if k = pend ps n then (ps.take n, 0) else ([], 40) := by
  have ht : ∀ p ∈ ps.take n, Fit p := fun p hp => h p (List.mem_of_mem_take hp)
  by_cases he : k = pend ps n
  · rw [if_pos he, he, take_pend ps n hn, dec_all ht]
  · rw [if_neg he]
    have hlt : n < ps.length := by
      rcases Nat.lt_or_ge n ps.length with h3 | h3
      · exact h3
      · exfalso
        have : n = ps.length := by omega
        subst this
        rw [pend_all] at h1 he
        omega
    have h2 := h2 hlt
    have e1 : enc ps = enc (ps.take n) ++ (encP ps[n] ++ enc (ps.drop (n + 1))) := by
      have := List.take_append_drop n ps
      rw [List.drop_eq_getElem_cons hlt] at this
      calc enc ps = enc (ps.take n ++ ps[n] :: ps.drop (n + 1)) := by rw [this]
        _ = _ := by rw [enc_app]; rfl
    have e2 := pend_succ ps n hlt
    have l1 : (enc (ps.take n)).length = pend ps n := rfl
    have e3 : (enc ps).take k = enc (ps.take n) ++ (encP ps[n]).take (k - pend ps n) := by
      rw [e1, List.take_append, l1, List.take_of_length_le (by rw [l1]; omega), List.take_append_of_le_length (by rw [encP_len]; omega)]
    have hj : k - pend ps n < (encP ps[n]).length := by rw [encP_len]; omega
    have hpos : 0 < k - pend ps n := by omega
    generalize k - pend ps n = j at hj hpos e3 ⊢
    rw [e3, dec_enc ht]
    have hne : (encP ps[n]).take j ≠ [] := by
      intro e
      have := congrArg List.length e
      rw [List.length_take, List.length_nil] at this
      have := encP_pos ps[n]
      omega
    rw [dec_err hne (one_cut (h _ (List.getElem_mem hlt)) j hj)]
    rfl
end Go.Proofs.Ytaifihoheieneaa.Prm
namespace Go.Proofs.Ytaifihoheieneaa.Prm
open Go.RowKit Go.Proofs.Ytaifihoheieneaa.Mem Go.Proofs.Ytaifihoheieneaa.Octet
set_option linter.unusedVariables false
set_option linter.unusedSimpArgs false
/-- Parameters that lie in blocks from lo on, below hi, their bytes too. -/
def PmC (w : World) (lo hi : Nat) (A : Option Addr) (ps : List Pm) : Prop :=
  ∀ i (h : i < ps.length), ∃ ad s, A = some ad ∧ lo ≤ ad.block ∧ ad.block < hi ∧ w.cell? (ad.add (i * 2)) = some (.int .u16 ps[i].1) ∧ w.cell? ((ad.add (i * 2)).add 1) = some s ∧ SlB w lo hi s ps[i].2
/-- A slice of parameters, as a value. -/
def PmS (w : World) (lo hi : Nat) (v : Value) (ps : List Pm) : Prop := ∃ A cap, v = .slice A ps.length cap ∧ PmC w lo hi A ps
/-- Numbers in their bounds. -/
def InB (p : Pm) : Prop := 0 ≤ p.1 ∧ p.1 < 65536 ∧ IsB p.2
theorem PmC.fr {w w' : World} {lo hi : Nat} {A : Option Addr} {ps : List Pm} {S : Nat → Prop} (h : PmC w lo hi A ps) (f : Fr S w w') (hs : ∀ k, lo ≤ k → k < hi → ¬ S k) : PmC w' lo hi A ps := by
  intro i hi'
  obtain ⟨ad, s, e, h1, h2, h3, h4, h5⟩ := h i hi'
  have key : ∀ p v, p.block = ad.block → w.cell? p = some v → w'.cell? p = some v := fun p v hp hc => by
    have hb := World.block_lt_of_cell? w _ hc
    rw [hp] at hb
    exact (World.cell?_of_block (by rw [hp]; exact f.block _ hb (hs _ h1 h2))).trans hc
  exact ⟨ad, s, e, h1, h2, key _ _ (add_block _ _) h3, key _ _ (by rw [add_block, add_block]) h4, h5.fr f hs⟩
theorem PmC.bl {w w' : World} {lo hi base : Nat} {A : Option Addr} {ps : List Pm} (h : PmC w lo hi A ps) (f : Below base w w') (hb : hi ≤ base) : PmC w' lo hi A ps :=
  h.fr (Bl.fr f) (fun k _ h2 h3 => by omega)
theorem PmS.fr {w w' : World} {lo hi : Nat} {v : Value} {ps : List Pm} {S : Nat → Prop} (h : PmS w lo hi v ps) (f : Fr S w w') (hs : ∀ k, lo ≤ k → k < hi → ¬ S k) : PmS w' lo hi v ps := by
  obtain ⟨A, cap, e, h⟩ := h
  exact ⟨A, cap, e, h.fr f hs⟩
theorem PmS.bl {w w' : World} {lo hi base : Nat} {v : Value} {ps : List Pm} (h : PmS w lo hi v ps) (f : Below base w w') (hb : hi ≤ base) : PmS w' lo hi v ps :=
  h.fr (Bl.fr f) (fun k _ h2 h3 => by omega)
def allFit (ps : List Pm) : Bool := ps.all fun p => decide (p.2.length ≤ 65531)
theorem fit_of {ps : List Pm} (h1 : ∀ p ∈ ps, InB p) (h2 : allFit ps = true) : ∀ p ∈ ps, Fit p := fun p hp => by
  have := List.all_eq_true.1 h2 p hp
  obtain ⟨a, b, c⟩ := h1 p hp
  exact ⟨a, b, c, by simpa using this⟩
theorem isb_encP {p : Pm} (h : Fit p) : IsB (encP p) := by
  intro x hx
  unfold encP at hx
  simp only [List.mem_append, List.mem_cons, List.not_mem_nil, or_false] at hx
  rcases hx with (hx | hx | hx | hx) | hx | hx
  · omega
  · omega
  · omega
  · omega
  · exact h.2.2.1 x hx
  · have := List.eq_of_mem_replicate hx; omega
theorem isb_enc {ps : List Pm} (h : ∀ p ∈ ps, Fit p) : IsB (enc ps) := by
  induction ps with
  | nil => intro x hx; cases hx
  | cons p ps ih =>
    intro x hx
    rcases List.mem_append.1 (show x ∈ encP p ++ enc ps from hx) with hx | hx
    · exact isb_encP (h p (by simp)) x hx
    · exact ih (fun q hq => h q (List.mem_cons_of_mem _ hq)) x hx
theorem enc_len_le (ps : List Pm) : ps.length * 4 ≤ (enc ps).length := by
  induction ps with
  | nil => simp
  | cons p ps ih =>
    show (ps.length + 1) * 4 ≤ (encP p ++ enc ps).length
    have := encP_pos p
    rw [List.length_append]
    omega
theorem enc_take (ps : List Pm) (k : Nat) (h : k < ps.length) : enc (ps.take (k + 1)) = enc (ps.take k) ++ encP ps[k] := by
  rw [List.take_add_one, List.getElem?_eq_getElem h, enc_app]
  congr 1
  show encP ps[k] ++ enc [] = _
  rw [show enc [] = [] from rfl, List.append_nil]
theorem enc_mod (ps : List Pm) : (enc ps).length % 4 = 0 := by
  induction ps with
  | nil => rfl
  | cons p ps ih =>
    show (encP p ++ enc ps).length % 4 = 0
    rw [List.length_append, encP_len]
    unfold all
    omega
theorem enc_take_le (ps : List Pm) (k : Nat) : (enc (ps.take k)).length ≤ (enc ps).length := by
  have : enc ps = enc (ps.take k) ++ enc (ps.drop k) := by rw [← enc_app, List.take_append_drop]
  rw [this, List.length_append]
  omega
theorem sl_shape {w : World} {lo hi : Nat} {s : Value} {xs : List Int} (h : SlB w lo hi s xs) : ∃ A cap, s = .slice A xs.length cap := by
  obtain ⟨A, cap, e, _⟩ := h; exact ⟨A, cap, e⟩
theorem encP_app (zs : List Int) (kk : Int) (xs : List Int) (h : zs.length % 4 = 0) : zs ++ encP (kk, xs) =
    zs ++ [kk / 256 % 256, kk % 256] ++ [(4 + (xs.length : Int)) / 256 % 256, (4 + (xs.length : Int)) % 256] ++ xs ++ List.replicate ((4 - (zs ++ [kk / 256 % 256, kk % 256] ++ [(4 + (xs.length : Int)) / 256 % 256, (4 + (xs.length : Int)) % 256] ++ xs).length % 4) % 4) 0 := by
  have e : ((xs.length + 4 : Nat) : Int) = 4 + (xs.length : Int) := by omega
  have e2 : (4 - (zs ++ [kk / 256 % 256, kk % 256] ++ [(4 + (xs.length : Int)) / 256 % 256, (4 + (xs.length : Int)) % 256] ++ xs).length % 4) % 4 = pz xs.length := by
    unfold pz
    simp only [List.length_append, List.length_cons, List.length_nil]
    omega
  rw [e2]
  unfold encP
  rw [e]
  simp [List.append_assoc]
/-- What param.Put hands back. -/
def PutR (w : World) (ps : List Pm) (e : Ending) (w' : World) : Prop :=
  Below w.heap.size w w' ∧ if allFit ps then ∃ B c, e = .returned (.tuple #[.slice B (enc ps).length c, .int .i64 0]) ∧ OwnB w' w.heap.size 5 (.slice B (enc ps).length c) (enc ps)
    else e = .returned (.tuple #[.slice none 0 0, .int .i64 43])
set_option maxHeartbeats 2000000 in
theorem put_calls (lo hi : Nat) (A : Option Addr) (cap : Nat) (ps : List Pm) (w : World) (h : PmC w lo hi A ps) (hhi : hi ≤ w.heap.size) (hb : ∀ p ∈ ps, InB p) (hl : (enc ps).length ≤ 140737488355000) (hn : ps.length ≤ 140737488355328) :
    Calls Try.prog 49 #[.slice A ps.length cap] w (PutR w ps) := by
  have hup := Try.underlying57
  go_enter Try.func49, Try.ntmps49
  go_wp2_with fail
  have W0 := WtrN.new w
  have B0 := (Below.refl w.heap.size w).alloc (Nat.le_refl _) (.cells #[.slice none 0 0] 60)
  have P0 := h.bl B0 hhi
  clear h
  go_loopw [9] (fun i wr => ∃ k : Nat, k ≤ ps.length ∧ i = .int .i64 k ∧ (∀ j (hj : j < ps.length), j < k → ps[j].2.length ≤ 65531) ∧ WtrN wr w.heap.size w.heap.size (enc (ps.take k)) ∧ PmC wr lo hi A ps ∧ Below w.heap.size w wr) (fun i _ => ps.length - (intOf i).toNat)
  case atStart => exact ⟨0, Nat.zero_le _, rfl, (fun j _ h => by omega), W0, P0, B0⟩
  case round =>
    clear W0 P0 B0
    obtain ⟨k, hk, rfl, hfit, W0, P0, B0⟩ := hrel
    by_cases hlt : k < ps.length
    · obtain ⟨ad, s, rfl, h1, h2, h3, h4, h5⟩ := P0 k hlt
      have hin := hb _ (List.getElem_mem hlt)
      have HE := Lib.hid (enc_take ps k hlt)
      have hle := enc_take_le ps (k + 1)
      have hnext : ∀ j (hj : j < ps.length), j < k + 1 → ps[k].2.length ≤ 65531 → ps[j].2.length ≤ 65531 := fun j hj h hp => by
        rcases Nat.lt_succ_iff_lt_or_eq.1 h with h | h
        · exact hfit j hj h
        · subst h; exact hp
      have hbad : ¬ ps[k].2.length ≤ 65531 → allFit ps = false := fun hp => by
        unfold allFit
        rw [List.all_eq_false]
        exact ⟨ps[k], List.getElem_mem hlt, by simpa using hp⟩
      have HN := Lib.hid hnext
      have HX := Lib.hid hbad
      clear hnext hbad hfit
      generalize ps[k] = p at h3 h5 hin HE HN HX
      obtain ⟨kk, xs⟩ := p
      obtain ⟨As, cs, rfl⟩ := sl_shape h5
      rw [add_add_ _ _ _ (by decide)] at h4
      have hx : encP (kk, xs) = [kk / 256 % 256, kk % 256] ++ [((xs.length + 4 : Nat) : Int) / 256 % 256, ((xs.length + 4 : Nat) : Int) % 256] ++ xs ++ List.replicate (pz xs.length) 0 := by simp [encP]
      have hel := encP_len (kk, xs)
      rw [HE.out, List.length_append] at hle
      have ha := all_add xs.length
      have h3' : wr.cell? (ad.add (k * 2)) = some (.int .u16 kk) := h3
      have hxs : SlB wr lo hi (.slice As xs.length cs) xs := h5
      clear h3 h5
      replace P0 := P0.fr (S := nothing) ((Fr.refl _ wr).alloc (.cells #[.int .u16 kk, .slice As xs.length cs] 57)) (fun _ _ _ h => h)
      replace hxs := SlB.fr hxs (S := nothing) ((Fr.refl _ wr).alloc (.cells #[.int .u16 kk, .slice As xs.length cs] 57)) (fun _ _ _ h => h)
      have WF := WtrF.hold (F := only wr.heap.size) W0 ((Below.refl wr.heap.size wr).alloc (Nat.le_refl _) (.cells #[.int .u16 kk, .slice As xs.length cs] 57)) (fun k h => by omega) (fun k h => by simp; omega)
      have bP := Blk.new wr #[.int .u16 kk, .slice As xs.length cs] 57
      clear W0
      have B1 := B0.alloc B0.size (.cells #[.int .u16 kk, .slice As xs.length cs] 57)
      have hws := B0.size
      by_cases hlong : xs.length ≤ 65531
      · have hld : decide ((65531 : Int) < xs.length) = false := decide_eq_false (by omega)
        have hsub : ∀ b, lo ≤ b → b < hi → ¬ OwnF (only wr.heap.size) w.heap.size b := fun b _ h2 h3 => by have := h3.1; omega
        clear HX
        go_wp2_with fail
        refine (u16f_calls _ _ _ _ kk _ WF (by omega)).mono ?_
        rintro e w1 ⟨rfl, W, f⟩
        replace P0 := P0.fr f hsub
        replace hxs := SlB.fr hxs f hsub
        replace bP := Blk.fr bP f (fun h => h.2 rfl)
        replace B1 := Bl.trans B1 (Bl.of_fr f B1.size (fun k h => h.1))
        have cP0 := bP.cell 0
        have cP1 := bP.cell 1
        simp at cP0 cP1
        clear WF f
        have WF := W
        clear W
        clear h3' h4
        go_wp2_with fail
        refine (u16f_calls _ _ _ _ _ _ WF (by simp; omega)).mono ?_
        rintro e w2 ⟨rfl, W, f⟩
        replace P0 := P0.fr f hsub
        replace hxs := SlB.fr hxs f hsub
        replace bP := Blk.fr bP f (fun h => h.2 rfl)
        replace B1 := Bl.trans B1 (Bl.of_fr f B1.size (fun k h => h.1))
        have cP0 := bP.cell 0
        have cP1 := bP.cell 1
        simp at cP0 cP1
        clear WF f
        have WF := W
        clear W
        go_wp2_with fail
        refine (putf_calls _ _ _ _ _ _ _ xs _ WF hxs (by simp; omega)).mono ?_
        rintro e w3 ⟨rfl, W, f⟩
        replace P0 := P0.fr f hsub
        replace hxs := SlB.fr hxs f hsub
        replace bP := Blk.fr bP f (fun h => h.2 rfl)
        replace B1 := Bl.trans B1 (Bl.of_fr f B1.size (fun k h => h.1))
        have cP0 := bP.cell 0
        have cP1 := bP.cell 1
        simp at cP0 cP1
        clear WF f
        have WF := W
        clear W
        go_wp2_with fail
        refine (padf_calls _ _ _ _ 4 _ WF (by simp; omega) (by decide)).mono ?_
        rintro e w4 ⟨rfl, W, f⟩
        replace P0 := P0.fr f hsub
        replace hxs := SlB.fr hxs f hsub
        replace bP := Blk.fr bP f (fun h => h.2 rfl)
        replace B1 := Bl.trans B1 (Bl.of_fr f B1.size (fun k h => h.1))
        have cP0 := bP.cell 0
        have cP1 := bP.cell 1
        simp at cP0 cP1
        clear WF f
        have WF := W
        clear W
        have HFIN := Lib.hid (show enc (ps.take (k + 1)) = _ from (HE.out.trans (encP_app (enc (ps.take k)) kk xs (enc_mod _))))
        have WN := WF.free
        rw [← HFIN.out] at WN
        have HWN := Lib.hid WN
        have HP0 := Lib.hid P0
        have HB1 := Lib.hid B1
        clear WF WN hxs bP cP0 cP1 hel HFIN P0 B1 B0
        go_wp2
        go_roundw
        case rel => exact ⟨k + 1, by omega, by go_num, (fun j hj h => HN.out j hj h hlong), HWN.out, HP0.out, HB1.out⟩
        case measure => simp [intOf]; omega
      · have hld : decide ((65531 : Int) < xs.length) = true := decide_eq_true (by omega)
        have HF := HX.out hlong
        go_wp2
        go_ret2
        refine ⟨B1, ?_⟩
        rw [HF]
        rfl
    · obtain rfl : k = ps.length := by omega
      rw [List.take_length] at W0
      have hall : allFit ps = true := List.all_eq_true.2 fun p hp => by
        obtain ⟨j, hj, rfl⟩ := List.mem_iff_getElem.1 hp
        simpa using hfit j hj hj
      clear hfit
      go_wp2_with fail
      refine (outn_calls _ _ _ _ W0 (by omega)).mono ?_
      rintro e w9 ⟨A9, n9, c9, rfl, rfl, -, o9, W9, B9⟩
      go_wp2
      go_ret2
      refine ⟨Bl.trans B0 (Bl.low B9 B0.size), ?_⟩
      rw [hall]
      exact ⟨_, _, rfl, OwnB.low o9 B0.size⟩
end Go.Proofs.Ytaifihoheieneaa.Prm
namespace Go.Proofs.Ytaifihoheieneaa.Prm
open Go.RowKit Go.Proofs.Ytaifihoheieneaa.Mem Go.Proofs.Ytaifihoheieneaa.Octet
set_option linter.unusedVariables false
set_option linter.unusedSimpArgs false
theorem info_p : (Try.prog.info? 57).map (fun i => (i.zero, i.size, i.bytes)) = some (some (.agg #[.int .u16 0, .slice none 0 0]), 2, 32) := by kernel_rfl
def pcells (qs : List (Pm × Value)) : List Value := qs.flatMap fun q => [.int .u16 q.1.1, q.2]
theorem pcells_len (qs : List (Pm × Value)) : (pcells qs).length = qs.length * 2 := by
  induction qs with
  | nil => rfl
  | cons q qs ih =>
    simp only [pcells, List.flatMap_cons, List.length_append] at ih ⊢
    rw [ih]
    simp
    omega
theorem pcells_at (qs : List (Pm × Value)) (i : Nat) (h : i < qs.length) : (pcells qs)[i * 2]? = some (.int .u16 qs[i].1.1) ∧ (pcells qs)[i * 2 + 1]? = some qs[i].2 := by
  induction qs generalizing i with
  | nil => simp at h
  | cons q qs ih =>
    have e : pcells (q :: qs) = .int .u16 q.1.1 :: q.2 :: pcells qs := rfl
    cases i with
    | zero => rw [e]; exact ⟨rfl, rfl⟩
    | succ i =>
      have := ih i (by simpa using h)
      rw [e]
      constructor
      · rw [show (i + 1) * 2 = i * 2 + 2 by omega]
        simpa using this.1
      · rw [show (i + 1) * 2 + 1 = i * 2 + 1 + 2 by omega]
        simpa using this.2
/-- A list of parameters that the call made: its row, and each value's bytes. -/
def OwnPm (w : World) (base : Nat) (v : Value) (ps : List Pm) : Prop :=
  ∃ qs : List (Pm × Value), ps = qs.map Prod.fst ∧ w.ownsRow base 57 2 v qs.length (pcells qs) ∧ ∀ q ∈ qs, OwnB w base 5 q.2 q.1.2 ∧ ∀ k, q.2.ownBlock = some k → v.ownBlock ≠ some k
theorem OwnPm.nil (w : World) (base : Nat) : OwnPm w base (.slice none 0 0) [] := ⟨[], rfl, World.ownsRow_nil _ _ _ _, fun q hq => by cases hq⟩
theorem row_fr {S : Nat → Prop} {w w' : World} {base : Nat} {e : TypeId} {size : Nat} {v : Value} {n : Nat} {xs : List Value} (h : w.ownsRow base e size v n xs) (f : Fr S w w') (hs : ∀ k, v.ownBlock = some k → ¬ S k) : w'.ownsRow base e size v n xs := by
  rcases h.2 with h0 | ⟨g, cap, cur, rfl, hb, hg, rest⟩
  · exact ⟨h.1, .inl h0⟩
  · exact ⟨h.1, .inr ⟨g, cap, cur, rfl, hb, (f.block g (Array.getElem?_eq_some_iff.1 hg).1 (hs g rfl)).trans hg, rest⟩⟩
theorem OwnPm.fr {S : Nat → Prop} {w w' : World} {base : Nat} {v : Value} {ps : List Pm} (h : OwnPm w base v ps) (f : Fr S w w') (hs : ∀ k, base ≤ k → ¬ S k) : OwnPm w' base v ps := by
  obtain ⟨qs, rfl, h1, h2⟩ := h
  exact ⟨qs, rfl, row_fr h1 f (fun k hk => hs k (h1.lt k hk).1), fun q hq => ⟨OwnB.fr (h2 q hq).1 f (fun k hk => hs k (OwnB.ge (h2 q hq).1 k hk)), (h2 q hq).2⟩⟩
theorem OwnPm.shape {w : World} {base : Nat} {v : Value} {ps : List Pm} (h : OwnPm w base v ps) : ∃ A cap, v = .slice A ps.length cap := by
  obtain ⟨qs, rfl, h1, h2⟩ := h
  rcases h1.2 with ⟨rfl, h0⟩ | ⟨g, cap, cur, rfl, _⟩
  · exact ⟨none, 0, by rw [List.length_map, h0]⟩
  · exact ⟨_, cap, by rw [List.length_map]⟩
theorem OwnPm.lt {w : World} {base : Nat} {v : Value} {ps : List Pm} (h : OwnPm w base v ps) (k : Nat) (hk : v.ownBlock = some k) : base ≤ k ∧ k < w.heap.size := by
  obtain ⟨qs, rfl, h1, h2⟩ := h
  exact h1.lt k hk
theorem OwnPm.pms {w : World} {base : Nat} {v : Value} {ps : List Pm} (h : OwnPm w base v ps) : PmS w base w.heap.size v ps := by
  obtain ⟨qs, rfl, h1, h2⟩ := h
  have hsh := OwnPm.shape ⟨qs, rfl, h1, h2⟩
  obtain ⟨A, cap, rfl⟩ := hsh
  refine ⟨A, cap, rfl, fun i hi => ?_⟩
  have hi' : i < qs.length := by simpa using hi
  rcases h1.2 with ⟨e, h0⟩ | ⟨g, cap', cur, e, hb, hg, hn, hm, hsz, ht⟩
  · omega
  · injection e with e1 e2 e3
    subst e1; subst e3
    have hc := h1.cells (g := g) rfl
    have hp := pcells_at qs i hi'
    refine ⟨_, qs[i].2, rfl, hb, (Array.getElem?_eq_some_iff.1 hg).1, ?_, ?_, ?_⟩
    · have := hc (i * 2) _ hp.1
      simpa using this
    · rw [add_add']
      have := hc (i * 2 + 1) _ hp.2
      simpa using this
    · have := SlB.of_own (h2 _ (List.getElem_mem hi')).1
      simpa using this
/-- One parameter more. -/
theorem OwnPm.more {w w' : World} {base : Nat} {v v' s : Value} {ps : List Pm} {kk : Int} {xs : List Int} {qs : List (Pm × Value)} (hps : ps = qs.map Prod.fst)
    (h2 : ∀ q ∈ qs, OwnB w base 5 q.2 q.1.2 ∧ ∀ k, q.2.ownBlock = some k → v.ownBlock ≠ some k)
    (hs : OwnB w base 5 s xs) (hne : ∀ k, s.ownBlock = some k → v.ownBlock ≠ some k)
    (hown : w'.ownsRow base 57 2 v' (qs.length + 1) (pcells qs ++ [.int .u16 kk, s])) (hg : w.grownBy w' v.ownBlock) (hat : v'.ownBlock = v.ownBlock ∨ v'.ownBlock = some w.heap.size) : OwnPm w' base v' (ps ++ [(kk, xs)]) := by
  have f : Fr (OfV v) w w' := (Fr.refl _ w).grown hg fun k hk => .inl hk
  refine ⟨qs ++ [((kk, xs), s)], by rw [hps]; simp, ?_, fun q hq => ?_⟩
  · have e : pcells (qs ++ [((kk, xs), s)]) = pcells qs ++ [.int .u16 kk, s] := by simp [pcells]
    rw [e, List.length_append]
    exact hown
  · rcases List.mem_append.1 hq with hq | hq
    · obtain ⟨a1, a2⟩ := h2 q hq
      refine ⟨OwnB.fr a1 f (fun k hk => a2 k hk), fun k hk => ?_⟩
      rcases hat with e | e
      · rw [e]; exact a2 k hk
      · rw [e]; intro e2; injection e2 with e2; have := OwnB.lt a1 k hk; omega
    · simp at hq
      subst hq
      refine ⟨OwnB.fr hs f (fun k hk => hne k hk), fun k hk => ?_⟩
      rcases hat with e | e
      · rw [e]; exact hne k hk
      · rw [e]; intro e2; injection e2 with e2; have := OwnB.lt hs k hk; omega
section
variable {P : Program} (w : World)
/-- append of one value of a struct's cells onto a row of the call's own. -/
theorem wpList_append_c {ops : Array Oper} {rest : List Oper} {o : Oper} {a : Act} {Q : Exit → Act → World → Prop} (hgd : o.guard = none) (s x : Operand) (t : TypeId)
    (ho : o.op = .call { callee := .builtin .append, args := #[s, x], argTypes := #[t, t] })
    (base : Nat) (e : TypeId) (i : TypeInfo) (z : Value) (size bytes : Nat) (ht : P.underlying t = some (.slice e)) (hi : P.info? e = some i) (hz : i.zero = some z) (hsize : i.size = size) (hby : i.bytes = bytes) (hzs : z.cells.size = size) (hsz : 0 < size)
    (v : Value) (n : Nat) (xs : List Value) (hs : a.eval s = v) (hown : w.ownsRow base e size v n xs)
    (ad : Addr) (m c : Nat) (news : List Value) (hx : a.eval x = .slice (some ad) m c) (hl : news.length = m * size) (hnews : ∀ j u, news[j]? = some u → w.cell? (ad.add j) = some u) (h1 : ∀ u ∈ news, u.oneCell' = true)
    (h63 : n + m ≤ maxLen) (hbytes : (n + m) * bytes ≤ 140737488355328) (hbase : base ≤ w.heap.size)
    (h : ∀ v' w', w'.ownsRow base e size v' (n + m) (xs ++ news) → w.grownBy w' v.ownBlock → (v'.ownBlock = v.ownBlock ∨ v'.ownBlock = some w.heap.size) → wpList P ops Q rest (a.put o.dst v') w') : wpList P ops Q (o :: rest) a w := by
  refine wpList_plain hgd fun K hK => ?_
  obtain ⟨v', w', hrun, h2, h3, _, h4⟩ := run_append_own_at (P := P) w base t o.type e i z size bytes ht hi hz hsize hby hzs hsz v n xs hown ad m c news hl hnews h1 h63 hbytes hbase
  unfold Oper.wp execOp
  simp only [ho, resolve, invoke, builtin, Sem.run_bind, Sem.run_pure, Result.andThen_ok, List.map_toArray, List.map_cons, List.map_nil, hs, hx, hrun]
  exact hK _ _ (h v' w' h2 h3 h4)
end
end Go.Proofs.Ytaifihoheieneaa.Prm
namespace Go.Proofs.Ytaifihoheieneaa.Prm
open Go.RowKit Go.Proofs.Ytaifihoheieneaa.Mem Go.Proofs.Ytaifihoheieneaa.Octet
set_option linter.unusedVariables false
set_option linter.unusedSimpArgs false
theorem nz_calls (x : Int) (w : World) : Calls Try.prog 62 #[.int .u8 x] w fun e w' => e = .returned (.bool (x != 0)) ∧ w' = w := by
  go_enter Try.func62, Try.ntmps62
  go_wp2
  go_ret
  exact ⟨rfl, rfl⟩
set_option maxHeartbeats 1000000 in
theorem index_calls (lo hi : Nat) (A : Option Addr) (c : Nat) (xs : List Int) (w : World) (h : RdB w lo hi A xs) (hl : xs.length ≤ 140737488355328) :
    Calls Try.prog 53 #[.slice A xs.length c, .func (.func 62) #[] #[]] w fun e w' => ∃ r : Int, e = .returned (.int .i64 r) ∧ decide (0 ≤ r) = xs.any (fun x => x != 0) ∧ w' = w := by
  go_enter Try.func53, Try.ntmps53
  go_wp2_with fail
  go_loopw [8] (fun i wr => ∃ k : Nat, k ≤ xs.length ∧ i = .int .i64 k ∧ (∀ j (h1 : j < xs.length), j < k → xs[j] = 0) ∧ wr = w) (fun i _ => xs.length - (intOf i).toNat)
  case atStart => exact ⟨0, Nat.zero_le _, rfl, (fun j _ h => by omega), rfl⟩
  case round =>
    obtain ⟨k, hk, rfl, hall, rfl⟩ := hrel
    by_cases hlt : k < xs.length
    · obtain ⟨ad, rfl, hc⟩ := h.at_ k hlt
      have HA := Lib.hid hall
      clear hall
      have hlt' : (k : Int) < xs.length := by omega
      by_cases hz : xs[k] = 0
      · have hz2 : (xs[k] != 0) = false := by simp [hz]
        have HZ := Lib.hid hz
        clear hz
        generalize hxk : xs[k] = x at hc hz2 HZ
        have HXK := Lib.hid hxk
        clear hxk
        go_wp2_with fail
        refine (nz_calls x _).mono ?_
        rintro e w1 ⟨he, rfl⟩
        rw [hz2] at he
        subst he
        go_wp2
        go_roundw
        case rel =>
          refine ⟨k + 1, by omega, by go_num, fun j h1 hj => ?_, by first | rfl | trivial⟩
          rcases Nat.lt_succ_iff_lt_or_eq.1 hj with hj | rfl
          · exact HA.out j h1 hj
          · exact HXK.out.trans HZ.out
        case measure => simp [intOf]; omega
      · have hz2 : (xs[k] != 0) = true := by simp [hz]
        have HF := Lib.hid (show xs.any (fun x => x != 0) = true from List.any_eq_true.2 ⟨xs[k], List.getElem_mem hlt, hz2⟩)
        clear hz
        generalize xs[k] = x at hc hz2
        go_wp2_with fail
        refine (nz_calls x _).mono ?_
        rintro e w1 ⟨he, rfl⟩
        rw [hz2] at he
        subst he
        go_wp2
        go_ret
        exact ⟨_, rfl, by rw [HF.out]; simp, rfl⟩
    · have HF := Lib.hid (show xs.any (fun x => x != 0) = false by
        rw [List.any_eq_false]
        intro x hx
        obtain ⟨j, hj, rfl⟩ := List.mem_iff_getElem.1 hx
        simp [hall j hj (by omega)])
      have hlt' : ¬ (k : Int) < xs.length := by omega
      clear hall
      go_wp2
      go_ret
      exact ⟨_, rfl, by rw [HF.out]; rfl, rfl⟩
set_option maxHeartbeats 1000000 in
theorem has_calls (lo hi : Nat) (A : Option Addr) (c : Nat) (xs : List Int) (w : World) (h : RdB w lo hi A xs) (hl : xs.length ≤ 140737488355328) :
    Calls Try.prog 40 #[.slice A xs.length c, .func (.func 62) #[] #[]] w fun e w' => e = .returned (.bool (xs.any (fun x => x != 0))) ∧ w' = w := by
  go_enter Try.func40, Try.ntmps40
  go_wp2_with fail
  refine (index_calls lo hi A c xs w h hl).mono ?_
  rintro e w1 ⟨r, rfl, hr, rfl⟩
  generalize hb : xs.any (fun x => x != 0) = b at hr
  have HB := Lib.hid hb
  clear hb
  go_wp2
  go_ret
  exact ⟨by rw [HB.out]; rfl, rfl⟩
theorem rd_short {rest : List Int} (h : rest.length < 4) : num (tk (lf rest 2) 2) = 0 ∧ lf (lf rest 2) 2 = [] ∧ bd (lf rest 2) (bd rest false 2) 2 = true := by
  by_cases h2 : (rest.length : Int) < 2
  · have e1 : lf rest 2 = [] := by unfold lf; rw [if_pos (by omega)]
    rw [e1]
    refine ⟨rfl, rfl, by unfold bd; rw [if_pos (by simp)]⟩
  · have e1 : lf rest 2 = rest.drop 2 := by unfold lf; rw [if_neg (by omega)]; rfl
    have l1 : ((rest.drop 2).length : Int) < 2 := by rw [List.length_drop]; omega
    rw [e1]
    refine ⟨by unfold tk; rw [if_pos (by omega)]; rfl, by unfold lf; rw [if_pos (by omega)], by unfold bd; rw [if_pos (by omega)]⟩
theorem num_pair (a b : Int) (ha : 0 ≤ a ∧ a < 256) (hb : 0 ≤ b ∧ b < 256) : num [a, b] = 256 * a + b := by
  show ((0 * 256 + a) % 4294967296 * 256 + b) % 4294967296 = _
  omega
theorem rd_ok {rest : List Int} (hb : IsB rest) (h : 4 ≤ rest.length) : num (tk rest 2) = 256 * at_ rest 0 + at_ rest 1 ∧ num (tk (lf rest 2) 2) = 256 * at_ rest 2 + at_ rest 3 ∧ lf (lf rest 2) 2 = rest.drop 4 ∧ bd (lf rest 2) (bd rest false 2) 2 = false := by
  match rest, h with
  | a :: b :: c :: d :: t, _ =>
    have h0 := hb a (by simp)
    have h1 := hb b (by simp)
    have h2 := hb c (by simp)
    have h3 := hb d (by simp)
    have e1 : lf (a :: b :: c :: d :: t) 2 = c :: d :: t := by unfold lf; rw [if_neg (by simp; omega)]; rfl
    have e2 : tk (a :: b :: c :: d :: t) 2 = [a, b] := by unfold tk; rw [if_neg (by simp; omega)]; rfl
    have e3 : tk (c :: d :: t) 2 = [c, d] := by unfold tk; rw [if_neg (by simp; omega)]; rfl
    have e4 : lf (c :: d :: t) 2 = t := by unfold lf; rw [if_neg (by simp; omega)]; rfl
    rw [e1, e2, e3, e4]
    refine ⟨num_pair a b h0 h1, num_pair c d h2 h3, rfl, ?_⟩
    unfold bd
    rw [if_neg (by simp; omega), if_neg (by simp; omega)]
theorem OwnPm.low {w : World} {base base' : Nat} {v : Value} {ps : List Pm} (h : OwnPm w base v ps) (hb : base' ≤ base) : OwnPm w base' v ps := by
  obtain ⟨qs, rfl, h1, h2⟩ := h
  refine ⟨qs, rfl, ?_, fun q hq => ⟨OwnB.low (h2 q hq).1 hb, (h2 q hq).2⟩⟩
  rcases h1.2 with h0 | ⟨g, cap, cur, rfl, hb', rest⟩
  · exact ⟨h1.1, .inl h0⟩
  · exact ⟨h1.1, .inr ⟨g, cap, cur, rfl, by omega, rest⟩⟩
/-- How many bytes a reader has left. -/
def leftIn (w : World) (g : Nat) : Nat := lenV ((w.cell? ⟨g, 0, none⟩).getD undef)
theorem Rdr.left {w : World} {g lo hi : Nat} {bs : List Int} {bad : Bool} (h : Rdr w g lo hi bs bad) : leftIn w g = bs.length := by
  obtain ⟨v, hb, ⟨A, cap, rfl, _⟩, _⟩ := h
  have := hb.cell 0
  simp at this
  unfold leftIn
  rw [this]
  rfl
theorem Rdr.lt {w : World} {g lo hi : Nat} {bs : List Int} {bad : Bool} (h : Rdr w g lo hi bs bad) : g < w.heap.size := by
  obtain ⟨v, hb, _⟩ := h
  exact hb.lt
theorem lf_nil (n : Int) : lf [] n = [] := by unfold lf; split <;> simp
theorem bd_true (bs : List Int) (n : Int) : bd bs true n = true := by unfold bd; split <;> rfl
theorem rd_two {L : List Int} {n p : Nat} (hn : 4 ≤ n) (hp : p = all n - n) : bd (lf L ((n : Int) - 4)) (bd L false ((n : Int) - 4)) p = decide (L.length + 4 < all n) := by
  have ha : n ≤ all n ∧ all n < n + 4 := by unfold all; omega
  by_cases h1 : (L.length : Int) < (n : Int) - 4
  · have e : bd L false ((n : Int) - 4) = true := by unfold bd; rw [if_pos (by omega)]
    rw [e, bd_true]
    exact (decide_eq_true (by omega)).symm
  · have e : bd L false ((n : Int) - 4) = false := by unfold bd; rw [if_neg (by omega)]
    have e2 : lf L ((n : Int) - 4) = L.drop (n - 4) := by unfold lf; rw [if_neg (by omega), show ((n : Int) - 4).toNat = n - 4 by omega]
    rw [e, e2]
    unfold bd
    rw [List.length_drop]
    by_cases h2 : L.length + 4 < all n
    · rw [if_pos (by omega), decide_eq_true h2]
    · rw [if_neg (by omega), decide_eq_false h2]
theorem rd_three {rest : List Int} {n p : Nat} (hn : 4 ≤ n) (hp : p = all n - n) (hl : all n ≤ rest.length) :
    tk (rest.drop 4) ((n : Int) - 4) = (rest.take n).drop 4 ∧ tk (lf (rest.drop 4) ((n : Int) - 4)) p = (rest.take (all n)).drop n ∧ lf (lf (rest.drop 4) ((n : Int) - 4)) p = rest.drop (all n) := by
  have ha : n ≤ all n ∧ all n < n + 4 := by unfold all; omega
  have e1 : lf (rest.drop 4) ((n : Int) - 4) = rest.drop n := by
    unfold lf
    rw [if_neg (by rw [List.length_drop]; omega), show ((n : Int) - 4).toNat = n - 4 by omega, List.drop_drop, show 4 + (n - 4) = n by omega]
  rw [e1]
  refine ⟨?_, ?_, ?_⟩
  · unfold tk
    rw [if_neg (by rw [List.length_drop]; omega), show ((n : Int) - 4).toNat = n - 4 by omega, List.drop_take]
  · unfold tk
    rw [if_neg (by rw [List.length_drop]; omega), Int.toNat_natCast, List.drop_take, hp]
  · unfold lf
    rw [if_neg (by rw [List.length_drop]; omega), Int.toNat_natCast, List.drop_drop, hp, show n + (all n - n) = all n by omega]
theorem one_ok {rest : List Int} {n : Nat} (h4 : 4 ≤ rest.length) (hn : 256 * at_ rest 2 + at_ rest 3 = n) (h : 4 ≤ n) (hl : all n ≤ rest.length) :
    one rest = if ((rest.take (all n)).drop n).any (fun x => x != 0) then .error 42 else .ok ((256 * at_ rest 0 + at_ rest 1, (rest.take n).drop 4), all n) := by
  unfold one
  rw [hn, Int.toNat_natCast, if_neg (by omega), if_neg (by omega), if_neg (by omega)]
theorem comb_err (ps : List Pm) (e : Int) (h : e ≠ 0) : comb ps ([], e) = ([], e) := by simp [comb, h]
theorem pad_num (n : Nat) : (4 - (n : Int) % 4) % 4 = ((all n - n : Nat) : Int) := by unfold all; omega
theorem new_two (w : World) (a b : Value) (t : TypeId) : ∀ j u, ([a, b] : List Value)[j]? = some u → (w.alloc (.cells #[a, b] t)).cell? ((⟨w.heap.size, 0, none⟩ : Addr).add j) = some u := by
  intro j u hu
  have h := Blk.new w #[a, b] t
  match j, hu with
  | 0, hu => exact (h.cell 0).trans hu
  | 1, hu => exact (h.cell 1).trans hu
/-- What param.Get hands back. -/
def GetR (w : World) (bs : List Int) (e : Ending) (w' : World) : Prop :=
  Below w.heap.size w w' ∧ ∃ B c, e = .returned (.tuple #[.slice B (dec bs).1.length c, .int .i64 (dec bs).2]) ∧ OwnPm w' w.heap.size (.slice B (dec bs).1.length c) (dec bs).1
set_option maxHeartbeats 4000000 in
theorem get_calls (lo hi : Nat) (v : Value) (bs : List Int) (w : World) (h : SlB w lo hi v bs) (hb : IsB bs) (hlen : bs.length ≤ 1000000) :
    Calls Try.prog 61 #[v] w (GetR w bs) := by
  go_enter Try.func61, Try.ntmps61
  go_wp2_with fail
  refine (new_calls lo hi v bs w h (by omega)).mono ?_
  rintro e w1 ⟨g, m, rfl, hm1, hm2, R, B1⟩
  have O1 := OwnPm.nil w1 (g + 1)
  have hlt1 := Rdr.lt R
  go_wp2_with fail
  go_loopw [5] (fun out wr => ∃ (ps : List Pm) (rest : List Int), rest.length ≤ 1000000 ∧ dec bs = comb ps (dec rest) ∧ Rdr wr g w.heap.size m rest false ∧ IsB rest ∧ OwnPm wr (g + 1) out ps ∧ ps.length * 4 + rest.length ≤ 1000000 ∧ Below w.heap.size w wr) (fun _ wr => leftIn wr g)
  case atStart => exact ⟨[], bs, hlen, (comb_nil _ dec_bad).symm, R, hb, O1, by simp; omega, B1⟩
  case round =>
    clear R O1 B1
    obtain ⟨ps, rest, hrl, hdec, R, hbr, O, hpl, B⟩ := hrel
    have hgl := Rdr.lt R
    have HDEC := Lib.hid hdec
    clear hdec
    have ML := Lib.hid (Rdr.left R)
    go_wp2_with fail
    refine (left_calls g _ _ _ _ _ R).mono ?_
    rintro e w2 ⟨rfl, rfl⟩
    by_cases h0 : rest.length = 0
    · have h0' : rest = [] := List.eq_nil_of_length_eq_zero h0
      subst h0'
      have HD := Lib.hid (show dec bs = (ps, 0) by rw [HDEC.out, dec_nil]; simp [comb])
      obtain ⟨A5, c5, rfl⟩ := O.shape
      clear h0
      go_wp2
      go_ret2
      refine ⟨B, ?_⟩
      rw [HD.out]
      exact ⟨_, _, rfl, O.fr (S := nothing) (Fr.refl _ _) (fun _ _ h => h) |>.low (by omega)⟩
    · have hpos : (0 : Int) < rest.length := by omega
      clear h0
      have hsep : ∀ b, g + 1 ≤ b → ¬ only g b := fun b h1 h2 => by have h3 : b = g := h2; omega
      go_wp2_with fail
      refine (u16_calls g _ _ _ _ _ R hbr hgl).mono ?_
      rintro e w3 ⟨rfl, R2, f⟩
      replace O := O.fr f hsep
      replace B := Bl.trans B (Bl.of_fr f B.size (fun k h => by have h3 : k = g := h; omega))
      have hgl := Rdr.lt R2
      clear R f
      have R := R2
      clear R2
      have hbr1 := isb_lf hbr 2
      go_wp2_with fail
      refine (u16_calls g _ _ _ _ _ R hbr1 hgl).mono ?_
      rintro e w4 ⟨rfl, R2, f⟩
      replace O := O.fr f hsep
      replace B := Bl.trans B (Bl.of_fr f B.size (fun k h => by have h3 : k = g := h; omega))
      have hgl := Rdr.lt R2
      clear R f
      have R := R2
      clear R2
      have hne : rest ≠ [] := by intro e; subst e; simp at hpos
      by_cases h4 : rest.length < 4
      · obtain ⟨e1, e2, e3⟩ := rd_short h4
        rw [e2, e3] at R
        rw [e1]
        have HD := Lib.hid (show dec bs = ([], 40) by rw [HDEC.out, dec_err hne (show one rest = .error 40 by unfold one; rw [if_pos h4]), comb_err _ _ (by decide)])
        clear e1 e2 e3 hbr1 h4 hne hbr
        generalize num (tk rest 2) = kk
        go_wp2_with fail
        refine (good_calls g _ _ _ _ _ R).mono ?_
        rintro e w5 ⟨rfl, rfl⟩
        go_wp2_with fail
        refine (take_out g _ _ _ _ _ _ R (.inl (by decide))).mono ?_
        rintro e w6 ⟨rfl, R2, f⟩
        replace O := O.fr f hsep
        replace B := Bl.trans B (Bl.of_fr f B.size (fun k h => by have h3 : k = g := h; omega))
        have hgl := Rdr.lt R2
        clear R f
        have R := R2
        clear R2
        go_wp2_with fail
        refine (take_bad g _ _ _ R).mono ?_
        rintro e w7 ⟨rfl, rfl⟩
        go_wp2_with fail
        refine (good_calls g _ _ _ _ _ R).mono ?_
        rintro e w8 ⟨rfl, rfl⟩
        go_wp2
        go_ret2
        refine ⟨B, ?_⟩
        rw [HD.out]
        exact ⟨_, _, rfl, OwnPm.nil _ _⟩
      · have h4' : 4 ≤ rest.length := by omega
        obtain ⟨e0, e1, e2, e3⟩ := rd_ok hbr h4'
        rw [e2, e3] at R
        have r0 := at_rng hbr 0
        have r1 := at_rng hbr 1
        have r2 := at_rng hbr 2
        have r3 := at_rng hbr 3
        obtain ⟨n, hn⟩ : ∃ n : Nat, 256 * at_ rest 2 + at_ rest 3 = n := ⟨(256 * at_ rest 2 + at_ rest 3).toNat, by omega⟩
        rw [e0, e1, hn]
        have hn16 : (n : Int) < 65536 := by omega
        have HNN := Lib.hid hn
        generalize hkk : 256 * at_ rest 0 + at_ rest 1 = kk
        have hk0 : 0 ≤ kk ∧ kk < 65536 := by omega
        have HKK := Lib.hid hkk
        clear e0 e1 e2 e3 hbr1 h4 r0 r1 r2 r3 hn hkk
        go_wp2_with fail
        refine (good_calls g _ _ _ _ _ R).mono ?_
        rintro e w5 ⟨rfl, rfl⟩
        by_cases hn4 : n < 4
        · have HD := Lib.hid (show dec bs = ([], 42) by rw [HDEC.out, dec_err hne (show one rest = .error 42 by unfold one; rw [if_neg (by omega), if_pos (by rw [HNN.out]; omega)]), comb_err _ _ (by decide)])
          have hd4 : decide ((n : Int) < 4) = true := decide_eq_true (by omega)
          clear hn4 hne hbr
          go_wp2
          go_ret2
          refine ⟨B, ?_⟩
          rw [HD.out]
          exact ⟨_, _, rfl, OwnPm.nil _ _⟩
        · have hd4 : decide ((n : Int) < 4) = false := decide_eq_false (by omega)
          have hn4' : 4 ≤ n := by omega
          clear hn4
          have HG5 := Lib.hid hgl
          obtain ⟨AO, cO, rfl⟩ := O.shape
          have HO5 := Lib.hid (fun k hk => (O.lt k hk).2)
          have HB5 := Lib.hid (fun k hk => (O.lt k hk).1)
          go_wp2_with fail
          refine (taken_calls g _ _ _ _ ((n : Int) - 4) _ R).mono ?_
          rintro e w6 ⟨A1, k1, c1, rfl, hk1, -, o1, R2, f⟩
          replace O := O.fr f hsep
          replace B := Bl.trans B (Bl.of_fr f B.size (fun k h => by have h3 : k = g := h; omega))
          have hgl := Rdr.lt R2
          clear R f
          have R := R2
          clear R2
          have HK1 := Lib.hid hk1
          clear hk1
          go_wp2_with fail
          rw [show (-((n : Int) % 4) % 4) = ((all n - n : Nat) : Int) by unfold all; omega]
          obtain ⟨p, hp⟩ : ∃ p, p = all n - n := ⟨_, rfl⟩
          rw [← hp]
          refine (taken_calls g _ _ _ _ (p : Int) _ R).mono ?_
          rintro e w7 ⟨A2, k2, c2, rfl, hk2, -, o2, R2, f⟩
          replace O := O.fr f hsep
          replace B := Bl.trans B (Bl.of_fr f B.size (fun k h => by have h3 : k = g := h; omega))
          replace o1 := OwnB.fr o1 f (fun k h1 h2 => by have h3 : k = g := h2; have := OwnB.ge o1 k h1; have := HG5.out; omega)
          have hgl := Rdr.lt R2
          have HK2 := Lib.hid hk2
          clear R f hk2
          rw [rd_two hn4' hp, show (rest.drop 4).length + 4 = rest.length by rw [List.length_drop]; omega] at R2
          go_wp2_with fail
          refine (good_calls g _ _ _ _ _ R2).mono ?_
          rintro e w8 ⟨rfl, rfl⟩
          by_cases h5 : rest.length < all n
          · rw [decide_eq_true h5]
            have HD := Lib.hid (show dec bs = ([], 40) by rw [HDEC.out, dec_err hne (show one rest = .error 40 by unfold one; rw [if_neg (by omega), HNN.out, Int.toNat_natCast, if_neg (by omega), if_pos h5]), comb_err _ _ (by decide)])
            clear hne hbr h5
            go_wp2
            go_ret2
            refine ⟨B, ?_⟩
            rw [HD.out]
            exact ⟨_, _, rfl, OwnPm.nil _ _⟩
          · rw [decide_eq_false h5]
            rw [decide_eq_false h5] at R2
            have h5' : all n ≤ rest.length := by omega
            have HONE := Lib.hid (one_ok h4' HNN.out hn4' h5')
            obtain ⟨t1, t2, t3⟩ := rd_three hn4' hp h5'
            rw [t1] at o1 HK1
            rw [t2] at o2 HK2
            rw [t3] at R2
            have hal : all n ≤ n + 3 := by unfold all; omega
            have HL1 := Lib.hid (show ((rest.take n).drop 4).length ≤ 65535 by rw [List.length_drop, List.length_take]; omega)
            have HL2 := Lib.hid (show ((rest.take (all n)).drop n).length ≤ 65535 by rw [List.length_drop, List.length_take]; omega)
            have rB : RdB w8 w6.heap.size w8.heap.size A2 ((rest.take (all n)).drop n) := by
              obtain ⟨A', cc, e, q1, q2, q3, q4⟩ := SlB.of_own o2
              injection e with e1 _ _
              subst e1
              exact q4
            rw [HKK.out] at HONE
            clear t1 t2 t3 h5 hne
            generalize hpd : (rest.take (all n)).drop n = pad at rB o2 HK2 HL2 HONE
            generalize hvl : (rest.take n).drop 4 = xs at o1 HK1 HL1 HONE
            clear hpd hvl
            have e2 : k2 = pad.length := HK2.out
            subst e2
            go_wp2_with fail
            refine (has_calls _ _ A2 c2 pad w8 rB (by have := HL2.out; omega)).mono ?_
            rintro e w9 ⟨rfl, rfl⟩
            cases hany : pad.any (fun x => x != 0) with
            | true =>
              have HD := Lib.hid (show dec bs = ([], 42) by rw [HDEC.out, dec_err (by intro e; subst e; simp at hpos) (show one rest = .error 42 by rw [HONE.out, hany, if_pos rfl]), comb_err _ _ (by decide)])
              clear hany
              go_wp2
              go_ret2
              refine ⟨B, ?_⟩
              rw [HD.out]
              exact ⟨_, _, rfl, OwnPm.nil _ _⟩
            | false =>
              have HD := Lib.hid (show dec bs = comb (ps ++ [(kk, xs)]) (dec (rest.drop (all n))) by rw [HDEC.out, dec_ok (show one rest = .ok ((kk, xs), all n) by rw [HONE.out, hany, if_neg (by decide)]), comb_comb])
              have e1 : k1 = xs.length := HK1.out
              subst e1
              clear hany HK1 HK2
              obtain ⟨qs, hps, hrow, hel⟩ := O
              have hql : qs.length = ps.length := by rw [hps, List.length_map]
              have hqb : qs.length + 1 ≤ 1000000 := by omega
              have hrow2 := row_fr (S := nothing) hrow ((Fr.refl _ w9).alloc (.cells #[.int .u16 kk, .slice A1 xs.length c1] 57)) (fun _ _ h => h)
              have hel2 : ∀ q ∈ qs, OwnB (w9.alloc (.cells #[.int .u16 kk, .slice A1 xs.length c1] 57)) (g + 1) 5 q.2 q.1.2 ∧ ∀ k, q.2.ownBlock = some k → (Value.slice AO ps.length cO).ownBlock ≠ some k :=
                fun q hq => ⟨OwnB.fr (hel q hq).1 (S := nothing) ((Fr.refl _ w9).alloc _) (fun _ _ h => h), (hel q hq).2⟩
              have o1' : OwnB (w9.alloc (.cells #[.int .u16 kk, .slice A1 xs.length c1] 57)) (g + 1) 5 (.slice A1 xs.length c1) xs :=
                OwnB.low (OwnB.fr o1 (S := nothing) ((Fr.refl _ w9).alloc _) (fun _ _ h => h)) HG5.out
              have hne1 : ∀ k, (Value.slice A1 xs.length c1).ownBlock = some k → (Value.slice AO ps.length cO).ownBlock ≠ some k := fun k h1 h2 => by
                have := OwnB.ge o1 k h1; have := HO5.out k h2; omega
              have R3 := Rdr.fr (S := nothing) R2 ((Fr.refl _ w9).alloc (.cells #[.int .u16 kk, .slice A1 xs.length c1] 57)) id (fun _ _ _ h => h)
              have B3 := B.alloc B.size (.cells #[.int .u16 kk, .slice A1 xs.length c1] 57)
              have bN := Blk.new w9 #[.int .u16 kk, .slice A1 xs.length c1] 57
              have hnews : ∀ j u, ([.int .u16 kk, .slice A1 xs.length c1] : List Value)[j]? = some u → (w9.alloc (.cells #[.int .u16 kk, .slice A1 xs.length c1] 57)).cell? ((⟨w9.heap.size, 0, none⟩ : Addr).add j) = some u := new_two w9 _ _ _
              obtain ⟨i0, hi0, hz0, hz1, hz2⟩ := info_parts info_p
              have hgb : g + 1 ≤ (w9.alloc (.cells #[.int .u16 kk, .slice A1 xs.length c1] 57)).heap.size := by simp; omega
              have HPS := Lib.hid hps
              have HM := Lib.hid hm2
              have HAL := Lib.hid (show 4 ≤ all n by unfold all; omega)
              clear hrow hel o1 o2 R2 B hps bN hql
              have hin : qs.length + 1 ≤ maxLen := by unfold maxLen; omega
              have hby : (qs.length + 1) * 32 ≤ 140737488355328 := by omega
              go_wp2_with (at_builtin; refine wpList_append_c _ rfl (.tmp 41) (.tmp 45) _ rfl (g + 1) 57 i0 _ 2 32 Try.underlying28 hi0 hz0 hz1 hz2 rfl (by decide) _ qs.length (pcells qs) rfl hrow2 ⟨w9.heap.size, 0, none⟩ 1 1 [.int .u16 kk, .slice A1 xs.length c1] rfl rfl hnews (by intro u hu; simp at hu; rcases hu with rfl | rfl <;> rfl) hin hby hgb ?_; intro v' w' hown hg hat; have O2 := OwnPm.more HPS.out hel2 o1' hne1 hown hg hat; have fG : Fr (OfV (.slice AO ps.length cO)) (w9.alloc (.cells #[.int .u16 kk, .slice A1 xs.length c1] 57)) w' := (Fr.refl _ _).grown hg (fun k hk => .inl hk); have HO2 := Lib.hid O2; have HFG := Lib.hid fG; clear hown hg hat O2 fG hel2 o1' hnews hrow2)
              go_roundw
              case rel =>
                have fG := HFG.out
                have hge : ∀ b, OfV (.slice AO ps.length cO) b → g + 1 ≤ b := fun b hb => HB5.out b hb
                refine ⟨ps ++ [(kk, xs)], rest.drop (all n), by rw [List.length_drop]; omega, HD.out, R3.fr fG (fun h => by have := hge _ h; omega) (fun b _ h2 h => by have := hge _ h; have := HM.out; omega), isb_drop hbr _, HO2.out, ?_, Bl.trans B3 (Bl.of_fr fG B3.size (fun b h => by have := hge _ h; have := HM.out; omega))⟩
                have := HAL.out
                rw [List.length_append, List.length_drop]
                simp
                omega
              case measure =>
                have fG := HFG.out
                have hge : ∀ b, OfV (.slice AO ps.length cO) b → g + 1 ≤ b := fun b hb => HB5.out b hb
                have R4 := R3.fr fG (fun h => by have := hge _ h; omega) (fun b _ h2 h => by have := hge _ h; have := HM.out; omega)
                have := HAL.out
                rw [Rdr.left R4, ML.out, List.length_drop]
                omega
end Go.Proofs.Ytaifihoheieneaa.Prm
namespace Go.Proofs.Ytaifihoheieneaa.Prm
open Go.RowKit Go.Proofs.Ytaifihoheieneaa.Mem Go.Proofs.Ytaifihoheieneaa.Octet
set_option linter.unusedVariables false
set_option linter.unusedSimpArgs false
theorem slb_str_d {w : World} {lo hi : Nat} {A : Option Addr} {n cap : Nat} {xs : List Int} (h : SlB w lo hi (.slice A n cap) xs) :
    (convert 29 9 (.slice A n cap)).run Try.prog w.drew = .ok (.string (bstr xs)) w.drew :=
  slb_str (SlB.fr h (S := nothing) (Fr.refl _ _).drew (fun _ _ _ h => h))
set_option maxHeartbeats 2000000 in
theorem same_calls (lo hi lo2 hi2 : Nat) (A B : Option Addr) (c c2 : Nat) (ps qs : List Pm) (w : World) (h : PmC w lo hi A ps) (h2 : PmC w lo2 hi2 B qs) (hb : ∀ p ∈ ps, InB p) (hb2 : ∀ p ∈ qs, InB p) (hx : ps.length ≤ 9223372036854775807) :
    Calls Try.prog 34 #[.slice A ps.length c, .slice B qs.length c2] w fun e w' => e = .returned (.bool (decide (ps = qs))) ∧ Below w.heap.size w w' := by
  have hup := Try.underlying57
  by_cases hl : ps.length = qs.length
  · have hld : ((ps.length : Int) != qs.length) = false := by simp; omega
    have HLL := Lib.hid hl
    clear hl
    go_enter Try.func34, Try.ntmps34
    go_wp2_with fail
    go_loopw [13] (fun i wr => ∃ k : Nat, k ≤ ps.length ∧ i = .int .i64 k ∧ (∀ j (h1 : j < ps.length) (h2 : j < qs.length), j < k → ps[j] = qs[j]) ∧ PmC wr lo hi A ps ∧ PmC wr lo2 hi2 B qs ∧ Below w.heap.size w wr) (fun i _ => ps.length - (intOf i).toNat)
    case atStart => exact ⟨0, Nat.zero_le _, rfl, (fun j _ _ h => by omega), h, h2, Below.refl _ _⟩
    case round =>
      clear h h2
      obtain ⟨k, hk, rfl, hall, P1, P2, B1⟩ := hrel
      have HA := Lib.hid hall
      clear hall
      by_cases hlt : k < ps.length
      · have hlt2 : k < qs.length := by have := HLL.out; omega
        obtain ⟨a1, s1, rfl, -, -, c10, c11, b1⟩ := P1 k hlt
        obtain ⟨a2, s2, rfl, -, -, c20, c21, b2⟩ := P2 k hlt2
        have i1 := (hb _ (List.getElem_mem hlt)).2.2
        have i2 := (hb2 _ (List.getElem_mem hlt2)).2.2
        have k1 : (k : Int) < ps.length := by omega
        have k2 : (k : Int) < qs.length := by omega
        have HN := Lib.hid (show ps[k] = qs[k] → ∀ j (h1 : j < ps.length) (h2 : j < qs.length), j < k + 1 → ps[j] = qs[j] from fun he j h1 h2 hj => by
          rcases Nat.lt_succ_iff_lt_or_eq.1 hj with hj | rfl
          · exact HA.out j h1 h2 hj
          · exact he)
        have HD := Lib.hid (show ps[k] ≠ qs[k] → decide (ps = qs) = false from fun he => by simp; rintro rfl; exact he rfl)
        generalize ps[k] = p at c10 b1 i1 HN HD
        generalize qs[k] = q at c20 b2 i2 HN HD
        obtain ⟨u, xs⟩ := p
        obtain ⟨v, ys⟩ := q
        obtain ⟨As1, cs1, rfl⟩ := sl_shape b1
        obtain ⟨As2, cs2, rfl⟩ := sl_shape b2
        rw [add_add_ _ _ _ (by decide)] at c11 c21
        have t1 := slb_str_d b1
        have t2 := slb_str_d b2
        have c10' : wr.cell? (a1.add (k * 2)) = some (.int .u16 u) := c10
        have c20' : wr.cell? (a2.add (k * 2)) = some (.int .u16 v) := c20
        have HB := bstr_beq i1 i2
        have t1' : (convert 29 9 (.slice As1 xs.length cs1)).run Try.prog wr.drew = .ok (.string (bstr xs)) wr.drew := t1
        have t2' : (convert 29 9 (.slice As2 ys.length cs2)).run Try.prog wr.drew = .ok (.string (bstr ys)) wr.drew := t2
        have HB' : ((bstr xs).toList == (bstr ys).toList) = decide (xs = ys) := HB
        clear c10 c20 b1 b2 t1 t2 HB i1 i2 HA
        by_cases hu : u = v
        · subst hu
          have hne : (u != u) = false := by simp
          by_cases hxy : xs = ys
          · have HXY := Lib.hid hxy
            rw [decide_eq_true hxy] at HB'
            clear hxy
            go_upto_region 6 with fail
            go_region_held_law (fun wq => wq.cell? (a1.add (k * 2)) = some (.int .u16 u) ∧ wq.cell? ⟨(a1.add (k * 2)).block, (a1.add (k * 2)).off + 1, none⟩ = some (.slice As1 xs.length cs1) ∧ wq.cell? (a2.add (k * 2)) = some (.int .u16 u) ∧ wq.cell? ⟨(a2.add (k * 2)).block, (a2.add (k * 2)).off + 1, none⟩ = some (.slice As2 ys.length cs2) ∧
              (convert 29 9 (.slice As1 xs.length cs1)).run Try.prog wq = .ok (.string (bstr xs)) wq ∧ (convert 29 9 (.slice As2 ys.length cs2)).run Try.prog wq = .ok (.string (bstr ys)) wq) (exact ⟨c10', c11, c20', c21, t1', t2'⟩) (fail)
            all_goals
              rename_i hK hH
              refine hK _ _ ?_
              clear hK hH
            all_goals
              go_wp2
              go_roundw
              case rel => exact ⟨k + 1, by omega, by go_num, HN.out (by rw [HXY.out]), P1.fr (S := nothing) (Fr.refl _ _).drew (fun _ _ _ h => h), P2.fr (S := nothing) (Fr.refl _ _).drew (fun _ _ _ h => h), B1.drew⟩
              case measure => simp [intOf]; omega
          · have HF := Lib.hid (HD.out (by simpa using hxy))
            rw [decide_eq_false hxy] at HB'
            clear hxy
            go_upto_region 6 with fail
            go_region_held_law (fun wq => wq.cell? (a1.add (k * 2)) = some (.int .u16 u) ∧ wq.cell? ⟨(a1.add (k * 2)).block, (a1.add (k * 2)).off + 1, none⟩ = some (.slice As1 xs.length cs1) ∧ wq.cell? (a2.add (k * 2)) = some (.int .u16 u) ∧ wq.cell? ⟨(a2.add (k * 2)).block, (a2.add (k * 2)).off + 1, none⟩ = some (.slice As2 ys.length cs2) ∧
              (convert 29 9 (.slice As1 xs.length cs1)).run Try.prog wq = .ok (.string (bstr xs)) wq ∧ (convert 29 9 (.slice As2 ys.length cs2)).run Try.prog wq = .ok (.string (bstr ys)) wq) (exact ⟨c10', c11, c20', c21, t1', t2'⟩) (fail)
            all_goals
              rename_i hK hH
              refine hK _ _ ?_
              clear hK hH
            all_goals
              go_wp2
              go_ret
              exact ⟨by rw [HF.out]; rfl, B1.drew⟩
        · have hne : (u != v) = true := by simpa using hu
          have HF := Lib.hid (HD.out (by simp [hu]))
          clear hu HB' t1' t2'
          go_upto_region 6 with fail
          go_quiet (fail)
          go_wp2
          go_ret
          exact ⟨by rw [HF.out]; rfl, ⟨B1.os, B1.tape, B1.output, B1.size, B1.block⟩⟩
      · have HF := Lib.hid (show decide (ps = qs) = true by
          simp only [decide_eq_true_eq]
          exact List.ext_getElem HLL.out (fun i h1 h2 => HA.out i h1 h2 (by omega)))
        have k1 : ¬ (k : Int) < ps.length := by omega
        go_wp2
        go_ret
        exact ⟨by rw [HF.out]; rfl, B1⟩
  · have hld : ((ps.length : Int) != qs.length) = true := by simp; omega
    have HF := Lib.hid (show decide (ps = qs) = false by simp; rintro rfl; exact hl rfl)
    clear hl
    go_enter Try.func34, Try.ntmps34
    go_wp2
    go_ret
    exact ⟨by rw [HF.out]; rfl, Below.refl _ _⟩
end Go.Proofs.Ytaifihoheieneaa.Prm
namespace Go.Proofs.Ytaifihoheieneaa.Prm
open Go.RowKit Go.Proofs.Ytaifihoheieneaa.Mem Go.Proofs.Ytaifihoheieneaa.Octet
set_option linter.unusedVariables false
set_option linter.unusedSimpArgs false
theorem OwnPm.split {w : World} {base : Nat} {v : Value} {ps : List Pm} (h : OwnPm w base v ps) : ∃ qs : List (Pm × Value), ps = qs.map Prod.fst ∧ qs.length = ps.length ∧ w.ownsRow base 57 2 v qs.length (pcells qs) ∧
    ∀ q ∈ qs, OwnB w base 5 q.2 q.1.2 ∧ ∀ k, q.2.ownBlock = some k → v.ownBlock ≠ some k := by
  obtain ⟨qs, rfl, h1, h2⟩ := h
  exact ⟨qs, rfl, by simp, h1, h2⟩
set_option maxHeartbeats 4000000 in
theorem copy_calls (lo hi : Nat) (A : Option Addr) (c : Nat) (ps : List Pm) (w : World) (h : PmC w lo hi A ps) (hhi : hi ≤ w.heap.size) (hn : ps.length ≤ 1000000) (hx : ∀ p ∈ ps, p.2.length ≤ 1000000) :
    Calls Try.prog 21 #[.slice A ps.length c] w fun e w' => ∃ B c', e = .returned (.slice B ps.length c') ∧ OwnPm w' w.heap.size (.slice B ps.length c') ps ∧ Below w.heap.size w w' := by
  have hup := Try.underlying57
  obtain ⟨ib, hib, hbz0, hbz1, hbz2⟩ := info_parts info_b
  obtain ⟨i0, hi0, hz0, hz1, hz2⟩ := info_parts info_p
  go_enter Try.func21, Try.ntmps21
  go_wp2_with fail
  go_loopw [3, 8] (fun v i wr => ∃ k : Nat, k ≤ ps.length ∧ i = .int .i64 k ∧ OwnPm wr w.heap.size v (ps.take k) ∧ PmC wr lo hi A ps ∧ Below w.heap.size w wr) (fun _ i _ => ps.length - (intOf i).toNat)
  case atStart => exact ⟨0, Nat.zero_le _, rfl, OwnPm.nil _ _, h, Below.refl _ _⟩
  case round =>
    clear h
    obtain ⟨k, hk, rfl, O, P, B⟩ := hrel
    by_cases hlt : k < ps.length
    · obtain ⟨ad, s, rfl, h1, h2, h3, h4, h5⟩ := P k hlt
      have hxl := hx _ (List.getElem_mem hlt)
      have HT := Lib.hid (show ps.take (k + 1) = ps.take k ++ [ps[k]] by rw [List.take_add_one, List.getElem?_eq_getElem hlt]; rfl)
      have hplen : (ps.take k).length = k := by simp; omega
      generalize ps[k] = q at h3 h5 HT hxl
      obtain ⟨kk, xs⟩ := q
      replace hxl : xs.length ≤ 1000000 := hxl
      obtain ⟨As, cs, rfl⟩ := sl_shape h5
      rw [add_add_ _ _ _ (by decide)] at h4
      have h3' : wr.cell? (ad.add (k * 2)) = some (.int .u16 kk) := h3
      have hkl : (k : Int) < ps.length := by omega
      have hws := B.size
      obtain ⟨AO, cO, eO⟩ := O.shape
      rw [hplen] at eO
      subst eO
      have HO5 := Lib.hid (fun k hk => (O.lt k hk).2)
      have HB5 := Lib.hid (fun k hk => (O.lt k hk).1)
      obtain ⟨W1, hW1⟩ : ∃ W1, (wr.alloc (.cells #[.int .u16 kk, .slice As xs.length cs] 57)).alloc (.cells #[] 5) = W1 := ⟨_, rfl⟩
      have bP : Blk W1 wr.heap.size 57 #[.int .u16 kk, .slice As xs.length cs] := by rw [← hW1]; exact (Blk.new wr _ _).alloc _
      have hW1s : W1.heap.size = wr.heap.size + 2 := by rw [← hW1]; simp
      have B1 : Below wr.heap.size wr W1 := by rw [← hW1]; exact ((Below.refl _ wr).alloc (Nat.le_refl _) _).alloc (by simp) _
      have own0 : W1.ownsRow (wr.heap.size + 1) 5 1 (.slice (some ⟨wr.heap.size + 1, 0, none⟩) 0 0) ([] : List Int).length (byts []) := by
        have e : (wr.alloc (.cells #[.int .u16 kk, .slice As xs.length cs] 57)).heap.size = wr.heap.size + 1 := by simp
        rw [← hW1]
        refine ⟨rfl, .inr ⟨wr.heap.size + 1, 0, #[], rfl, Nat.le_refl _, ?_, Nat.le_refl _, Nat.zero_le _, rfl, rfl⟩⟩
        have := heap_alloc_new (wr.alloc (.cells #[.int .u16 kk, .slice As xs.length cs] 57)) (.cells #[] 5)
        rwa [e] at this
      obtain ⟨A', cc, e5, g1, g2, g3, g4⟩ := SlB.bl (hi := hi) h5 B1 (by omega)
      injection e5 with e5 _ e6
      subst e5; subst e6
      have c0 := bP.cell 0
      have c1 := bP.cell 1
      have f1 := bP.frozen 1
      simp at c0 c1
      have HW1 := Lib.hid hW1
      have hbb : wr.heap.size + 1 ≤ W1.heap.size := by omega
      clear hW1
      have hapl : ([] : List Int).length + xs.length ≤ 140737488355328 := by simp; omega
      clear h3 h5 g1 g2 g3
      rw [← HW1.out] at own0 g4 hbb bP B1
      clear c0 c1 f1
      go_upto_region 6 with (at_builtin; refine wpList_append_b _ rfl (.tmp 12) (.tmp 14) _ rfl (wr.heap.size + 1) 5 ib Try.underlying29 hib hbz0 hbz1 hbz2 _ [] rfl own0 lo hi _ _ cs xs rfl rfl g4 hapl hbb ?_; intro v1 w2 hown hg hat; have o1 : OwnB w2 (wr.heap.size + 1) 5 v1 xs := hown; obtain ⟨B1s, c1s, rfl, -, -⟩ := OwnB.slice o1; have G1 : Fr (OfV (.slice (some ⟨wr.heap.size + 1, 0, none⟩) 0 0)) _ w2 := (Fr.refl _ _).grown hg (fun k hk => .inl hk); have bP2 := Blk.fr bP G1 (fun h => by have := Option.some.inj h; simp at this); have c0 := bP2.cell 0; have c1 := bP2.cell 1; have f1 := bP2.frozen 1; simp at c0 c1; have HG1 := Lib.hid G1; have HO1 := Lib.hid o1; have HBP := Lib.hid bP2; clear hown hg hat own0 o1 G1 bP2 bP)
      have bP3 := (HBP.out.set 1 (.slice B1s xs.length c1s)).cast (cs' := #[.int .u16 kk, .slice B1s xs.length c1s]) rfl
      have fS : Fr (only wr.heap.size) w2 (w2.setCell ⟨wr.heap.size, 1, none⟩ (.slice B1s xs.length c1s)) := (Fr.refl (only wr.heap.size) w2).set_only 1 none (.slice B1s xs.length c1s)
      have o3 := OwnB.fr HO1.out fS (fun k h1 h2 => by have h3 : k = wr.heap.size := h2; have := OwnB.ge HO1.out k h1; omega)
      have FW : Below wr.heap.size wr (w2.setCell ⟨wr.heap.size, 1, none⟩ (.slice B1s xs.length c1s)) := (Bl.trans B1 (Bl.of_fr HG1.out (by omega) (fun k h => by have h2 := Option.some.inj h; simp at h2; omega))).setCell (Nat.le_refl _) _
      clear HBP HO1 HG1 fS g4 hbb hapl h4 h3' c0 c1 f1 B1 HW1 hW1s
      generalize w2.setCell ⟨wr.heap.size, 1, none⟩ (.slice B1s xs.length c1s) = w3 at bP3 o3 FW ⊢
      have c0 := bP3.cell 0
      have c1 := bP3.cell 1
      simp at c0 c1
      have O3 := OwnPm.fr (S := nothing) O (Fr.of_below FW) (fun _ _ h => h)
      have P3 := P.fr (S := nothing) (Fr.of_below FW) (fun _ _ _ h => h)
      have B3 := Bl.trans B (Bl.low FW hws)
      have hws3 := FW.size
      clear O P B FW bP3
      obtain ⟨qs, hps, hql, hrow, hel⟩ := O3.split
      have hqb : qs.length + 1 ≤ 1000001 := by omega
      have hrow2 := row_fr (S := nothing) hrow ((Fr.refl _ w3).alloc (.cells #[.int .u16 kk, .slice B1s xs.length c1s] 57)) (fun _ _ h => h)
      have hel2 : ∀ q ∈ qs, OwnB (w3.alloc (.cells #[.int .u16 kk, .slice B1s xs.length c1s] 57)) w.heap.size 5 q.2 q.1.2 ∧ ∀ j, q.2.ownBlock = some j → (Value.slice AO k cO).ownBlock ≠ some j :=
        fun q hq => ⟨OwnB.fr (hel q hq).1 (S := nothing) ((Fr.refl _ w3).alloc _) (fun _ _ h => h), (hel q hq).2⟩
      have o1' : OwnB (w3.alloc (.cells #[.int .u16 kk, .slice B1s xs.length c1s] 57)) w.heap.size 5 (.slice B1s xs.length c1s) xs :=
        OwnB.low (OwnB.fr o3 (S := nothing) ((Fr.refl _ w3).alloc _) (fun _ _ h => h)) (by omega)
      have hne1 : ∀ j, (Value.slice B1s xs.length c1s).ownBlock = some j → (Value.slice AO k cO).ownBlock ≠ some j := fun j h1 h2 => by
        have := OwnB.ge o3 j h1; have := HO5.out j h2; omega
      have P4 := P3.fr (S := nothing) ((Fr.refl _ w3).alloc (.cells #[.int .u16 kk, .slice B1s xs.length c1s] 57)) (fun _ _ _ h => h)
      have B4 := B3.alloc B3.size (.cells #[.int .u16 kk, .slice B1s xs.length c1s] 57)
      have hnews := new_two w3 (.int .u16 kk) (.slice B1s xs.length c1s) 57
      have hgb : w.heap.size ≤ (w3.alloc (.cells #[.int .u16 kk, .slice B1s xs.length c1s] 57)).heap.size := by simp; omega
      have HPS := Lib.hid hps
      clear hrow hel o3 P3 B3 hps O3
      have hin : qs.length + 1 ≤ maxLen := by unfold maxLen; omega
      have hby : (qs.length + 1) * 32 ≤ 140737488355328 := by omega
      rw [hplen] at hql
      go_wp2_with (at_builtin; refine wpList_append_c _ rfl (.tmp 17) (.tmp 19) _ rfl w.heap.size 57 i0 _ 2 32 Try.underlying28 hi0 hz0 hz1 hz2 rfl (by decide) _ qs.length (pcells qs) rfl hrow2 ⟨w3.heap.size, 0, none⟩ 1 1 [.int .u16 kk, .slice B1s xs.length c1s] rfl rfl hnews (by intro u hu; simp at hu; rcases hu with rfl | rfl <;> rfl) hin hby hgb ?_; intro v' w' hown hg hat; have O2 := OwnPm.more HPS.out hel2 o1' hne1 hown hg hat; have fG : Fr (OfV (.slice AO k cO)) (w3.alloc (.cells #[.int .u16 kk, .slice B1s xs.length c1s] 57)) w' := (Fr.refl _ _).grown hg (fun k hk => .inl hk); have HO2 := Lib.hid O2; have HFG := Lib.hid fG; clear hown hg hat O2 fG hel2 o1' hnews hrow2)
      go_roundw
      case rel =>
        have fG := HFG.out
        exact ⟨k + 1, by omega, by go_num, by rw [HT.out]; exact HO2.out, P4.fr fG (fun b _ h2 h => by have := HB5.out _ h; omega), Bl.trans B4 (Bl.of_fr fG B4.size (fun b h => HB5.out _ h))⟩
      case measure => simp [intOf]; omega
    · obtain rfl : k = ps.length := by omega
      rw [List.take_length] at O
      obtain ⟨A5, c5, rfl⟩ := O.shape
      have hkl : ¬ ((ps.length : Nat) : Int) < ps.length := by omega
      go_wp2
      go_ret
      exact ⟨_, _, rfl, O, B⟩
end Go.Proofs.Ytaifihoheieneaa.Prm
namespace Go.Proofs.Ytaifihoheieneaa.Prm
open Go.RowKit Go.Proofs.Ytaifihoheieneaa.Mem Go.Proofs.Ytaifihoheieneaa.Octet
set_option linter.unusedVariables false
set_option linter.unusedSimpArgs false
theorem at_drop (bs : List Int) (p i : Nat) : at_ (bs.drop p) i = at_ bs (p + i) := by
  unfold at_
  simp [List.getD, List.getElem?_drop]
theorem at_get (bs : List Int) (i : Nat) (h : i < bs.length) : at_ bs i = bs[i] := by
  unfold at_
  simp [h]
theorem addr_suc (a : Addr) (i j : Nat) (hj : 0 < j := by decide) : a.add (i + j) = ⟨a.block, a.off + (i + j), none⟩ := by
  unfold Addr.add
  rw [if_neg (by omega)]
theorem add_name (p n : Nat) (h : p + n < 9223372036854775808) : ∃ z : Nat, wrap64 ((p : Int) + (n : Int)) = (z : Int) ∧ z = p + n := ⟨p + n, by unfold wrap64; omega, rfl⟩
theorem Fr.cell_ {w w' : World} (f : Fr nothing w w') {p : Addr} (hp : p.block < w.heap.size) : w'.cell? p = w.cell? p := World.cell?_of_block (f.block _ hp id)
theorem meas_ (d k : Nat) (h : k < d) : d - (intOf (.int .i64 ((k : Int) + 1))).toNat < d - (intOf (.int .i64 (k : Int))).toNat := by
  show d - ((k : Int) + 1).toNat < d - (k : Int).toNat
  omega
theorem meas2_ (d k h : Nat) (e : d - h < d - k) : d - (intOf (.int .i64 (h : Int))).toNat < d - (intOf (.int .i64 (k : Int))).toNat := e
theorem wr64 (x : Int) (h : 0 ≤ x ∧ x < 9223372036854775808) : IntKind.i64.wrap x = x := by rw [IntKind.wrap_i64]; omega
set_option maxHeartbeats 4000000 in
set_option maxRecDepth 100000 in
theorem rget_calls (lo hi : Nat) (A : Option Addr) (c : Nat) (bs : List Int) (w : World) (h : SlB w lo hi (.slice A bs.length c) bs) (hhi : hi ≤ w.heap.size) (hb : IsB bs) (hlen : bs.length ≤ 1000000) :
    Calls Try.prog 46 #[.slice A bs.length c] w fun e w' => ∃ B c', e = .returned (.tuple #[.slice B (dec bs).1.length c', .int .i64 (dec bs).2]) ∧ OwnPm w' w.heap.size (.slice B (dec bs).1.length c') (dec bs).1 ∧ Below w.heap.size w w' := by
  have hup := Try.underlying57
  obtain ⟨ib, hib, hbz0, hbz1, hbz2⟩ := info_parts info_b
  obtain ⟨i0, hi0, hz0, hz1, hz2⟩ := info_parts info_p
  go_enter Try.func46, Try.ntmps46
  go_wp2_with fail
  go_loopw [4, 5] (fun v i wr => ∃ (p : Nat) (ps : List Pm), p ≤ bs.length ∧ i = .int .i64 p ∧ dec bs = comb ps (dec (bs.drop p)) ∧ ps.length * 4 ≤ p ∧ OwnPm wr w.heap.size v ps ∧ SlB wr lo hi (.slice A bs.length c) bs ∧ Below w.heap.size w wr) (fun _ i _ => bs.length - (intOf i).toNat)
  case atStart => exact ⟨0, [], Nat.zero_le _, rfl, (comb_nil _ dec_bad).symm, Nat.zero_le _, OwnPm.nil _ _, h, Below.refl _ _⟩
  case round =>
    clear h
    obtain ⟨p, ps, hp, rfl, hdec, hpl, O, X, B⟩ := hrel
    have HDEC := Lib.hid hdec
    clear hdec
    by_cases hlt : p < bs.length
    · have hpl1 : (p : Int) < bs.length := by omega
      have hne : bs.drop p ≠ [] := by intro e; have := congrArg List.length e; rw [List.length_drop] at this; simp at this; omega
      have hdl : (bs.drop p).length = bs.length - p := by simp
      by_cases h4 : bs.length - p < 4
      · have HD := Lib.hid (show dec bs = ([], 40) by rw [HDEC.out, dec_err hne (show one (bs.drop p) = .error 40 by unfold one; rw [if_pos (by omega)]), comb_err _ _ (by decide)])
        have hd4 : (bs.length : Int) - p < 4 := by omega
        clear h4 hne hdl
        go_wp2
        go_ret2
        rw [HD.out]
        exact ⟨none, 0, rfl, OwnPm.nil _ _, B⟩
      · have hd4 : ¬ (bs.length : Int) - p < 4 := by omega
        obtain ⟨A', c', e5, g1, g2, g3, g4⟩ := X
        injection e5 with e5 elen e6
        clear elen
        subst e5; subst e6
        obtain ⟨ad, rfl, c0⟩ := g4.at_ p hlt
        obtain ⟨ad1, e1, c1⟩ := g4.at_ (p + 1) (by omega)
        obtain ⟨ad2, e2, c2⟩ := g4.at_ (p + 2) (by omega)
        obtain ⟨ad3, e3, c3⟩ := g4.at_ (p + 3) (by omega)
        injection e1 with e1
        injection e2 with e2
        injection e3 with e3
        subst e1; subst e2; subst e3
        have r0 := hb _ (List.getElem_mem hlt)
        have r1 := hb _ (List.getElem_mem (show p + 1 < bs.length by omega))
        have r2 := hb _ (List.getElem_mem (show p + 2 < bs.length by omega))
        have r3 := hb _ (List.getElem_mem (show p + 3 < bs.length by omega))
        have a0 := at_drop bs p 0
        have a1 := at_drop bs p 1
        have a2 := at_drop bs p 2
        have a3 := at_drop bs p 3
        rw [at_get bs _ (by omega)] at a0 a1 a2 a3
        rw [addr_suc ad p 1] at c1
        rw [addr_suc ad p 2] at c2
        rw [addr_suc ad p 3] at c3
        have d1 : (0 : Int) ≤ (p : Int) + 1 := by omega
        have d2 : (0 : Int) ≤ (p : Int) + 2 := by omega
        have d3 : (0 : Int) ≤ (p : Int) + 3 := by omega
        have n1 : ((p : Int) + 1).toNat = p + 1 := by omega
        have n2 : ((p : Int) + 2).toNat = p + 2 := by omega
        have n3 : ((p : Int) + 3).toNat = p + 3 := by omega
        have b1 : (p : Int) + 1 < bs.length := by omega
        have b2 : (p : Int) + 2 < bs.length := by omega
        have b3 : (p : Int) + 3 < bs.length := by omega
        rw [show bs[p + 0]'(by omega) = bs[p] from rfl] at a0
        generalize bs[p] = x0 at *
        generalize bs[p + 1]'(by omega) = x1 at *
        generalize bs[p + 2]'(by omega) = x2 at *
        generalize bs[p + 3]'(by omega) = x3 at *
        have HA0 := Lib.hid a0
        have HA1 := Lib.hid a1
        have HA2 := Lib.hid a2
        have HA3 := Lib.hid a3
        clear a0 a1 a2 a3
        go_upto_region 6 with fail
        go_cut [6] (fun v wz => v = .int .i64 (256 * x0 + x1) ∧ Fr nothing wr wz)
        case first =>
          have w0_ := wr64 x0 (by omega)
          have w1_ := wr64 x1 (by omega)
          have w2_ := wr64 (256 * x0) (by omega)
          have w3_ := wr64 (256 * x0 + x1) (by omega)
          have w4_ := wr64 ((p : Int) + 1) (by omega)
          have w5_ := wr64 ((p : Int) + 2) (by omega)
          have w6_ := wr64 ((p : Int) + 3) (by omega)
          go_quiet (fail)
          go_wp2
          go_meet
          case rel => exact ⟨rfl, (Fr.refl _ _).drewN _⟩
        case rest =>
        rename World => wq
        obtain ⟨rfl, fq⟩ := hcut
        replace c2 : wq.cell? ⟨ad.block, ad.off + (p + 2), none⟩ = some (.int .u8 x2) := (Fr.cell_ fq (World.block_lt_of_cell? _ _ c2)).trans c2
        replace c3 : wq.cell? ⟨ad.block, ad.off + (p + 3), none⟩ = some (.int .u8 x3) := (Fr.cell_ fq (World.block_lt_of_cell? _ _ c3)).trans c3
        replace O := O.fr fq (fun _ _ h => h)
        replace g4 := RdB.fr g4 fq (fun _ _ _ h => h)
        replace B := Bl.trans B (Bl.of_fr fq B.size (fun k h => h.elim))
        clear fq c0 c1
        go_upto_region 7 with fail
        go_cut [7] (fun v wz => v = .int .i64 (256 * x2 + x3) ∧ Fr nothing wq wz)
        case first =>
          have w0_ := wr64 x2 (by omega)
          have w1_ := wr64 x3 (by omega)
          have w2_ := wr64 (256 * x2) (by omega)
          have w3_ := wr64 (256 * x2 + x3) (by omega)
          have w4_ := wr64 ((p : Int) + 1) (by omega)
          have w5_ := wr64 ((p : Int) + 2) (by omega)
          have w6_ := wr64 ((p : Int) + 3) (by omega)
          go_quiet (fail)
          go_wp2
          go_meet
          case rel => exact ⟨rfl, (Fr.refl _ _).drewN _⟩
        case rest =>
        rename World => wp
        obtain ⟨rfl, fq⟩ := hcut
        replace O := O.fr fq (fun _ _ h => h)
        replace g4 := RdB.fr g4 fq (fun _ _ _ h => h)
        replace B := Bl.trans B (Bl.of_fr fq B.size (fun k h => h.elim))
        clear fq c2 c3
        obtain ⟨n, hn⟩ : ∃ n : Nat, 256 * x2 + x3 = n := ⟨(256 * x2 + x3).toNat, by omega⟩
        rw [hn]
        have hkk0 : 0 ≤ 256 * x0 + x1 ∧ 256 * x0 + x1 < 65536 := by omega
        have HN0 := Lib.hid (show 256 * at_ (bs.drop p) 2 + at_ (bs.drop p) 3 = (n : Int) by rw [HA2.out, HA3.out, hn])
        have HK0 := Lib.hid (show 256 * at_ (bs.drop p) 0 + at_ (bs.drop p) 1 = 256 * x0 + x1 by rw [HA0.out, HA1.out])
        have hn16 : (n : Int) < 65536 := by omega
        generalize 256 * x0 + x1 = kk at *
        have h4' : 4 ≤ (bs.drop p).length := by omega
        clear hn r0 r1 r2 r3 HA0 HA1 HA2 HA3 b1 b2 b3 d1 d2 d3 n1 n2 n3 hd4
        by_cases hn4 : n < 4
        · have HD := Lib.hid (show dec bs = ([], 42) by rw [HDEC.out, dec_err hne (show one (bs.drop p) = .error 42 by unfold one; rw [if_neg (by omega), if_pos (by rw [HN0.out]; omega)]), comb_err _ _ (by decide)])
          have hd : decide ((n : Int) < 4) = true := decide_eq_true (by omega)
          clear hn4 hne
          go_wp2
          go_ret2
          rw [HD.out]
          exact ⟨none, 0, rfl, OwnPm.nil _ _, B⟩
        · have hd : decide ((n : Int) < 4) = false := decide_eq_false (by omega)
          have hn4' : 4 ≤ n := by omega
          clear hn4
          go_upto_region 11 with fail
          rw [show ((n : Int) + 3) / 4 * 4 = ((all n : Nat) : Int) by unfold all; omega]
          have hal : n ≤ all n ∧ all n < n + 4 := by unfold all; omega
          by_cases h5 : bs.length - p < all n
          · have HD := Lib.hid (show dec bs = ([], 40) by rw [HDEC.out, dec_err hne (show one (bs.drop p) = .error 40 by unfold one; rw [if_neg (by omega), HN0.out, Int.toNat_natCast, if_neg (by omega), if_pos (by omega)]), comb_err _ _ (by decide)])
            have hd5 : (bs.length : Int) - p < (all n : Nat) := by omega
            clear h5 hne hal
            go_wp2
            go_ret2
            rw [HD.out]
            exact ⟨none, 0, rfl, OwnPm.nil _ _, B⟩
          · have hd5 : ¬ (bs.length : Int) - p < (all n : Nat) := by omega
            have h5' : all n ≤ (bs.drop p).length := by omega
            have HONE := Lib.hid (one_ok h4' HN0.out hn4' h5')
            rw [HK0.out] at HONE
            have q1 : (p : Int) + n ≤ (p : Int) + (all n : Nat) := by omega
            have q2 : (p : Int) + (all n : Nat) ≤ c := by omega
            have q3 : (0 : Int) ≤ (p : Int) + n := by omega
            have q4 : (p : Int) + n ≤ c := by omega
            have q5 : (0 : Int) ≤ (p : Int) + (all n : Nat) := by omega
            have q6 : (p : Int) + (all n : Nat) ≤ 2000000 := by omega
            have HAL := Lib.hid hal
            have HN4 := Lib.hid hn4'
            generalize all n = an at *
            have HN16 := Lib.hid hn16
            have hn16d : decide ((n : Int) < 65536) = true := decide_eq_true hn16
            have hnn : n ≤ 65535 := by omega
            have han : an ≤ 65540 := by omega
            have hpb : p ≤ 1000000 := by omega
            have hd5' : decide ((bs.length : Int) - p < (an : Int)) = false := decide_eq_false hd5
            clear hal hd hn16 hn16d q6 hd5 q3 q5
            go_upto_region 13 with fail
            obtain ⟨lo1, hw1, hlo⟩ := add_name p n (by omega)
            obtain ⟨hi1, hw2, hhi1⟩ := add_name p an (by omega)
            have l0 : lo1 ≤ hi1 := by have := HAL.out.1; omega
            have l1 : (lo1 : Int) ≤ hi1 := by omega
            have l2 : (hi1 : Int) ≤ c := by omega
            have l3 : (lo1 : Int) ≤ c := by omega
            have HG1 := Lib.hid g1
            have HNN := Lib.hid hnn
            have HAN := Lib.hid han
            have HPB := Lib.hid hpb
            have HLEN := Lib.hid hlen
            have HP := Lib.hid hp
            have HLO := Lib.hid hlo
            have HHI := Lib.hid hhi1
            have HPL := Lib.hid hpl
            have HLT := Lib.hid hlt
            have H4 := Lib.hid h4'
            have H5 := Lib.hid h5'
            have HDL := Lib.hid hdl
            have HNE := Lib.hid hne
            clear hd5' hnn han hpb hlen hp hlo hhi1 hpl hpl1 hlt h4 h4' h5 h5' hdl hne q1 q2 q4 g1 hn4'
            obtain ⟨E, hE⟩ : ∃ E, (if c = lo1 then some ad else some (ad.add lo1)) = E := ⟨_, rfl⟩
            have rP : RdB wp lo hi E ((bs.drop lo1).take (hi1 - lo1)) := by
              rw [← hE]
              exact (g4.drop (n := lo1) (by have := HLO.out; have := HHI.out; have := HLEN.out; have := H5.out; have := HDL.out; have := HAL.out.1; have := HP.out; omega) HG1.out).take _
            have hpad : ((bs.drop p).take an).drop n = (bs.drop lo1).take (hi1 - lo1) := by
              rw [List.drop_take, List.drop_drop, HLO.out, HHI.out, show p + an - (p + n) = an - n by omega]
            have hpl2 : ((bs.drop lo1).take (hi1 - lo1)).length = hi1 - lo1 := by
              rw [List.length_take, List.length_drop]
              have := HLO.out; have := HHI.out; have := H5.out; have := HDL.out; have := HAL.out.1; have := HP.out; omega
            rw [hpad] at HONE
            generalize (bs.drop lo1).take (hi1 - lo1) = pad at rP hpl2 HONE
            have HE := Lib.hid hE
            have HW1 := Lib.hid hw1
            have HW2 := Lib.hid hw2
            go_wp2_with fail
            clear hE hw1 hw2 hpad
            go_loopw [68] (fun i wr => ∃ k : Nat, k ≤ hi1 - lo1 ∧ i = .int .i64 k ∧ (∀ j (h : j < pad.length), j < k → pad[j] = 0) ∧ wr = wp) (fun i _ => (hi1 - lo1) - (intOf i).toNat)
            case atStart => exact ⟨0, Nat.zero_le _, rfl, (fun j _ h => by omega), rfl⟩
            case round =>
              obtain ⟨k, hk, rfl, hz, rfl⟩ := hrel
              by_cases hkl : k < hi1 - lo1
              · obtain ⟨ae, eE, hc⟩ := rP.at_ k (by omega)
                subst eE
                have hkd : (k : Int) < ((hi1 - lo1 : Nat) : Int) := by omega
                have HZ := Lib.hid hz
                have hkb : k ≤ 10 := by have := HLO.out; have := HHI.out; have := HAL.out.2; omega
                by_cases hx : pad[k]'(by omega) = 0
                · have hx2 : (pad[k]'(by omega) != 0) = false := by simp [hx]
                  have HX := Lib.hid hx
                  clear hx hz
                  generalize hxk : pad[k]'(by omega) = x at hc hx2
                  have HXK := Lib.hid hxk
                  clear hxk
                  go_wp2
                  go_roundw
                  case rel =>
                    refine ⟨k + 1, hkl, by go_num, fun j h1 hj => ?_, by first | rfl | trivial⟩
                    rcases Nat.lt_succ_iff_lt_or_eq.1 hj with hj | rfl
                    · exact HZ.out j h1 hj
                    · exact HX.out
                  case measure => exact meas_ _ _ hkl
                · have hx2 : (pad[k]'(by omega) != 0) = true := by simpa using hx
                  have hany : pad.any (fun x => x != 0) = true := List.any_eq_true.2 ⟨_, List.getElem_mem (by omega), hx2⟩
                  have HD := Lib.hid (show dec bs = ([], 42) by rw [HDEC.out, dec_err HNE.out (show one (bs.drop p) = .error 42 by rw [HONE.out, hany, if_pos rfl]), comb_err _ _ (by decide)])
                  clear hx hz hany
                  generalize pad[k]'(by omega) = x at hc hx2
                  go_wp2
                  go_ret2
                  rw [HD.out]
                  exact ⟨none, 0, rfl, OwnPm.nil _ _, B⟩
              · rename World => wz
                have hany : pad.any (fun x => x != 0) = false := by
                  rw [List.any_eq_false]
                  intro x hx
                  obtain ⟨j, hj, rfl⟩ := List.mem_iff_getElem.1 hx
                  simp [hz j hj (by omega)]
                have hkd : ¬ (k : Int) < ((hi1 - lo1 : Nat) : Int) := by omega
                obtain ⟨lo2, hw3, hlo2⟩ := add_name p 4 (by have := HPB.out; omega)
                have HW3 := Lib.hid (show wrap64 ((p : Int) + 4) = (lo2 : Int) from hw3)
                clear hw3
                have hxe : ((bs.drop p).take n).drop 4 = (bs.drop lo2).take (lo1 - lo2) := by
                  rw [List.drop_take, List.drop_drop, hlo2, HLO.out, show p + n - (p + 4) = n - 4 by omega]
                have hxl : ((bs.drop lo2).take (lo1 - lo2)).length = lo1 - lo2 := by
                  rw [List.length_take, List.length_drop]
                  have := HLO.out; have := H5.out; have := HDL.out; have := HAL.out.1; have := HP.out; have := HG1.out; have := HHI.out; omega
                have m0 : lo2 ≤ lo1 := by have := HLO.out; have := HN4.out; omega
                have m1 : (lo2 : Int) ≤ lo1 := by omega
                have m2 : (lo1 : Int) ≤ c := by omega
                have m3 : (lo2 : Int) ≤ c := by omega
                have hxb : lo1 - lo2 ≤ 65535 := by have := HLO.out; have := HNN.out; omega
                obtain ⟨E2, hE2⟩ : ∃ E2, (if c = lo2 then some ad else some (ad.add lo2)) = E2 := ⟨_, rfl⟩
                have rX : RdB wz lo hi E2 ((bs.drop lo2).take (lo1 - lo2)) := by
                  rw [← hE2]
                  exact (g4.drop (n := lo2) (by have := HLO.out; have := HHI.out; have := H5.out; have := HDL.out; have := HAL.out.1; have := HP.out; have := HLT.out; have := H4.out; omega) HG1.out).take _
                rw [hxe] at HONE
                generalize (bs.drop lo2).take (lo1 - lo2) = xs at rX hxl HONE
                have HD := Lib.hid (show dec bs = comb (ps ++ [(kk, xs)]) (dec (bs.drop hi1)) by rw [HDEC.out, dec_ok (show one (bs.drop p) = .ok ((kk, xs), an) by rw [HONE.out, hany, if_neg (by decide)]), comb_comb, List.drop_drop, HHI.out])
                have HXL := Lib.hid hxl
                have hapl : ([] : List Int).length + xs.length ≤ 140737488355328 := by simp; omega
                clear hany hz hk hkl hxe hlo2 hxl rP hpl2
                obtain ⟨W1, hW1⟩ : ∃ W1, (wz.alloc (.cells #[] 5)) = W1 := ⟨_, rfl⟩
                have B1 : Below wz.heap.size wz W1 := by rw [← hW1]; exact (Below.refl _ wz).alloc (Nat.le_refl _) _
                have own0 : W1.ownsRow wz.heap.size 5 1 (.slice (some ⟨wz.heap.size, 0, none⟩) 0 0) ([] : List Int).length (byts []) := by
                  rw [← hW1]
                  exact ⟨rfl, .inr ⟨wz.heap.size, 0, #[], rfl, Nat.le_refl _, heap_alloc_new wz (.cells #[] 5), Nat.le_refl _, Nat.zero_le _, rfl, rfl⟩⟩
                have hW1s : wz.heap.size ≤ W1.heap.size := B1.size
                have rX1 : RdB W1 lo hi E2 xs := RdB.fr rX (Fr.of_below (S := nothing) B1) (fun _ _ _ h => h)
                have hws := B.size
                obtain ⟨AO, cO, eO⟩ := O.shape
                subst eO
                have HO5 := Lib.hid (fun k hk => (O.lt k hk).2)
                have HB5 := Lib.hid (fun k hk => (O.lt k hk).1)
                have HR4 := Lib.hid g4
                have HG2 := Lib.hid g2
                have HG3 := Lib.hid g3
                have HWS := Lib.hid hws
                have HB := Lib.hid B
                have HO := Lib.hid O
                have HB1 := Lib.hid B1
                have HKK := Lib.hid hkk0
                have HQB := Lib.hid (show ps.length ≤ 250000 by have := HPL.out; have := HPB.out; omega)
                have hkd2 : decide (kk < 65536) = true := decide_eq_true hkk0.2
                have hw1 := HW1.out
                have hw3 := HW3.out
                subst hW1
                clear rX g4 hws B O B1 hxb
                go_upto_region 19 with fail
                clear hkd
                go_wp2_with (first | (at_builtin; refine wpList_append_c _ rfl (.tmp 75) (.tmp 88) _ rfl w.heap.size 57 i0 _ 2 32 Try.underlying28 hi0 hz0 hz1 hz2 rfl (by decide) _ qs.length (pcells qs) rfl hrow2 ⟨w2.heap.size, 0, none⟩ 1 1 [.int .u16 kk, .slice B1s xs.length c1s] rfl rfl hnews (by intro u hu; simp at hu; rcases hu with rfl | rfl <;> rfl) hin hby hgb ?_; intro v' w' hown hg hat; have O2 := OwnPm.more HPS.out hel2 o1' hne1 hown hg hat; have fG : Fr (OfV (.slice AO ps.length cO)) (w2.alloc (.cells #[.int .u16 kk, .slice B1s xs.length c1s] 57)) w' := (Fr.refl _ _).grown hg (fun k hk => .inl hk); have HO2 := Lib.hid O2; have HFG := Lib.hid fG; clear hown hg hat O2 fG hel2 o1' hnews hrow2) | (at_builtin; refine wpList_append_b _ rfl (.tmp 78) (.tmp 85) _ rfl wz.heap.size 5 ib Try.underlying29 hib hbz0 hbz1 hbz2 _ [] rfl own0 lo hi _ _ _ xs rfl HXL.out.symm rX1 hapl hW1s ?_; intro v1 w2 hown hg hat; clear hw1 hw3 hE2; have o1 : OwnB w2 wz.heap.size 5 v1 xs := hown; obtain ⟨B1s, c1s, rfl, -, -⟩ := OwnB.slice o1; have G1 : Fr (OfV (.slice (some ⟨wz.heap.size, 0, none⟩) 0 0)) _ w2 := (Fr.refl _ _).grown hg (fun k hk => .inl hk); have FW : Below wz.heap.size wz w2 := Bl.trans HB1.out (Bl.of_fr G1 hW1s (fun k h => by have h2 := Option.some.inj h; simp at h2; omega)); have hws := HWS.out; have hws3 := FW.size; have O3 := OwnPm.fr (S := nothing) HO.out (Fr.of_below FW) (fun _ _ h => h); have P3 := RdB.fr HR4.out (Fr.of_below (S := nothing) FW) (fun _ _ _ h => h); have B3 := Bl.trans HB.out (Bl.low FW hws); obtain ⟨qs, hps, hql, hrow, hel⟩ := O3.split; have hqb : qs.length + 1 ≤ 1000001 := (by have := HQB.out; omega); have hrow2 := row_fr (S := nothing) hrow ((Fr.refl _ w2).alloc (.cells #[.int .u16 kk, .slice B1s xs.length c1s] 57)) (fun _ _ h => h); have hel2 : ∀ q ∈ qs, OwnB (w2.alloc (.cells #[.int .u16 kk, .slice B1s xs.length c1s] 57)) w.heap.size 5 q.2 q.1.2 ∧ ∀ j, q.2.ownBlock = some j → (Value.slice AO ps.length cO).ownBlock ≠ some j := (fun q hq => ⟨OwnB.fr (hel q hq).1 (S := nothing) ((Fr.refl _ w2).alloc _) (fun _ _ h => h), (hel q hq).2⟩); have o1' : OwnB (w2.alloc (.cells #[.int .u16 kk, .slice B1s xs.length c1s] 57)) w.heap.size 5 (.slice B1s xs.length c1s) xs := OwnB.low (OwnB.fr o1 (S := nothing) ((Fr.refl _ w2).alloc _) (fun _ _ h => h)) hws; have hne1 : ∀ j, (Value.slice B1s xs.length c1s).ownBlock = some j → (Value.slice AO ps.length cO).ownBlock ≠ some j := (fun j h1 h2 => by have := OwnB.ge o1 j h1; have := HO5.out j h2; omega); have P4 := RdB.fr P3 (S := nothing) ((Fr.refl _ w2).alloc (.cells #[.int .u16 kk, .slice B1s xs.length c1s] 57)) (fun _ _ _ h => h); have B4 := B3.alloc B3.size (.cells #[.int .u16 kk, .slice B1s xs.length c1s] 57); have hnews := new_two w2 (.int .u16 kk) (.slice B1s xs.length c1s) 57; have hgb : w.heap.size ≤ (w2.alloc (.cells #[.int .u16 kk, .slice B1s xs.length c1s] 57)).heap.size := (by simp; omega); have HPS := Lib.hid hps; have hin : qs.length + 1 ≤ maxLen := (by unfold maxLen; omega); have hby : (qs.length + 1) * 32 ≤ 140737488355328 := (by omega); have HP4 := Lib.hid P4; have HB4 := Lib.hid B4; clear hown hg hat hrow hel o1 P3 B3 hps O3 G1 FW own0 rX1 hapl hW1s hws hws3 hqb P4 B4 hql))
                go_roundw
                case rel =>
                  have fG := HFG.out
                  refine ⟨hi1, ps ++ [(kk, xs)], ?_, by rw [HW2.out], HD.out, ?_, HO2.out, ⟨some ad, c, rfl, HG1.out, g2, g3, HP4.out.fr fG (fun b _ h2 h => ?_)⟩, Bl.trans HB4.out (Bl.of_fr fG HB4.out.size (fun b h => HB5.out _ h))⟩
                  · have := HHI.out; have := H5.out; have := HDL.out; have := HP.out; omega
                  · have := HHI.out; have := HPL.out; have := HAL.out; have := HN4.out; rw [List.length_append]; simp; omega
                  · have := HB5.out _ h; omega
                case measure =>
                  rw [HW2.out]
                  exact meas2_ _ _ _ (by have := HHI.out; have := HAL.out; have := HN4.out; have := HLT.out; omega)
    · obtain rfl : p = bs.length := by omega
      have HD := Lib.hid (show dec bs = (ps, 0) by rw [HDEC.out, List.drop_length, dec_nil]; simp [comb])
      obtain ⟨A5, c5, rfl⟩ := O.shape
      have hpl1 : ¬ ((bs.length : Nat) : Int) < bs.length := by omega
      go_wp2
      go_ret2
      rw [HD.out]
      exact ⟨_, _, rfl, O, B⟩
end Go.Proofs.Ytaifihoheieneaa.Prm
namespace Go.Proofs.Ytaifihoheieneaa.Prm
open Go.RowKit Go.Proofs.Ytaifihoheieneaa.Mem Go.Proofs.Ytaifihoheieneaa.Octet
set_option linter.unusedVariables false
set_option linter.unusedSimpArgs false
/-- What is kept in a round: the bytes so far, the list, the parameter and its bytes. -/
def PutSt (w0 : World) (lo hi g : Nat) (A : Option Addr) (ps : List Pm) (kk : Int) (sv : Value) (xs : List Int) (v : Value) (zs : List Int) (w : World) : Prop :=
  OwnB w w0.heap.size 5 v zs ∧ PmC w lo hi A ps ∧ Blk w g 57 #[.int .u16 kk, sv] ∧ SlB w lo hi sv xs ∧ Below w0.heap.size w0 w ∧ hi ≤ w0.heap.size
section
variable {w0 w w' : World} {lo hi g : Nat} {A : Option Addr} {ps : List Pm} {kk : Int} {sv : Value} {xs : List Int} {v v' : Value} {zs zs' : List Int}
theorem PutSt.size (h : PutSt w0 lo hi g A ps kk sv xs v zs w) : w0.heap.size ≤ w.heap.size := h.2.2.2.2.1.size
theorem PutSt.bl (h : PutSt w0 lo hi g A ps kk sv xs v zs w) (f : Below w.heap.size w w') : PutSt w0 lo hi g A ps kk sv xs v zs w' := by
  obtain ⟨h1, h2, h3, h4, h5, h6⟩ := h
  have hs := h5.size
  exact ⟨OwnB.fr h1 (S := nothing) (Fr.of_below f) (fun _ _ h => h), h2.fr (S := nothing) (Fr.of_below f) (fun _ _ _ h => h), Blk.fr (S := nothing) h3 (Fr.of_below f) id, SlB.fr h4 (S := nothing) (Fr.of_below f) (fun _ _ _ h => h), Bl.trans h5 (Bl.low f hs), h6⟩
theorem PutSt.fr (h : PutSt w0 lo hi g A ps kk sv xs v zs w) (own : OwnB w' w0.heap.size 5 v' zs') (f : Fr (OfV v) w w') : PutSt w0 lo hi g A ps kk sv xs v' zs' w' := by
  obtain ⟨h1, h2, h3, h4, h5, h6⟩ := h
  have hge : ∀ k, OfV v k → w0.heap.size ≤ k := fun k hk => OwnB.ge h1 k hk
  exact ⟨own, h2.fr f (fun k _ h h' => by have := hge k h'; omega), Blk.fr h3 f (fun h => OwnB.ne h1 h3 (by decide) h), SlB.fr h4 f (fun k _ h h' => by have := hge k h'; omega), Bl.trans h5 (Bl.of_fr f h5.size hge), h6⟩
theorem PutSt.app (h : PutSt w0 lo hi g A ps kk sv xs v zs w) (hown : w'.ownsRow w0.heap.size 5 1 v' zs'.length (byts zs')) (hg : w.grownBy w' v.ownBlock) : PutSt w0 lo hi g A ps kk sv xs v' zs' w' :=
  h.fr hown ((Fr.refl _ _).grown hg (fun k hk => .inl hk))
theorem PutSt.pad (h : PutSt w0 lo hi g A ps kk sv xs v zs w) (k : AppP w v zs' v' w') : PutSt w0 lo hi g A ps kk sv xs v' zs' w' := by
  refine h.fr (OwnB.rise k.1 (fun b hb => ?_)) k.2.2
  rcases k.2.1 with e | ⟨b', e, h1, _⟩
  · rw [e] at hb; exact OwnB.ge h.1 b hb
  · rw [e] at hb; injection hb with hb; have := h.size; omega
theorem PutSt.c0 (h : PutSt w0 lo hi g A ps kk sv xs v zs w) : w.cell? ⟨g, 0, none⟩ = some (.int .u16 kk) := by simpa using h.2.2.1.cell 0
theorem PutSt.c1 (h : PutSt w0 lo hi g A ps kk sv xs v zs w) : w.cell? ⟨g, 1, none⟩ = some sv := by simpa using h.2.2.1.cell 1
theorem PutSt.shape (h : PutSt w0 lo hi g A ps kk sv xs v zs w) : ∃ X n k, v = .slice X n k ∧ n = zs.length := by
  obtain ⟨X, k, e, _⟩ := OwnB.slice h.1; exact ⟨X, _, k, e, rfl⟩
end
theorem rd_sl {w : World} {lo hi : Nat} {A : Option Addr} {n c : Nat} {xs : List Int} (h : SlB w lo hi (.slice A n c) xs) : RdB w lo hi A xs := by
  obtain ⟨A', cap, e, h1, h2, h3, h4⟩ := h
  injection e with e1 _ _
  subst e1
  exact h4
theorem rd_own {w : World} {base n : Nat} {A : Option Addr} {m c : Nat} {xs : List Int} (h : OwnB w base 5 (.slice A m c) xs) (hn : xs.length = n) : RdB w base w.heap.size A xs := rd_sl (SlB.of_own h)
theorem txt_two (v : Int) : txt v 2 = [v / 256 % 256, v % 256] := by simp [txt, List.range_succ]
/-- What flumeref05.Put hands back. -/
def RPutR (w : World) (ps : List Pm) (e : Ending) (w' : World) : Prop :=
  Below w.heap.size w w' ∧ if allFit ps then ∃ B c, e = .returned (.tuple #[.slice B (enc ps).length c, .bool true]) ∧ OwnB w' w.heap.size 5 (.slice B (enc ps).length c) (enc ps)
    else e = .returned (.tuple #[.slice none 0 0, .bool false])
set_option maxHeartbeats 4000000 in
set_option maxRecDepth 100000 in
theorem rput_calls (lo hi : Nat) (A : Option Addr) (cap : Nat) (ps : List Pm) (w : World) (h : PmC w lo hi A ps) (hhi : hi ≤ w.heap.size) (hb : ∀ p ∈ ps, InB p) (hl : (enc ps).length ≤ 140737488350000) (hn : ps.length ≤ 140737488355328) :
    Calls Try.prog 32 #[.slice A ps.length cap] w (RPutR w ps) := by
  have hup := Try.underlying57
  obtain ⟨ib, hib, hbz0, hbz1, hbz2⟩ := info_parts info_b
  go_enter Try.func32, Try.ntmps32
  go_wp2_with fail
  go_loopw [4, 9] (fun v i wr => ∃ k : Nat, k ≤ ps.length ∧ i = .int .i64 k ∧ (∀ j (hj : j < ps.length), j < k → ps[j].2.length ≤ 65531) ∧ OwnB wr w.heap.size 5 v (enc (ps.take k)) ∧ PmC wr lo hi A ps ∧ Below w.heap.size w wr) (fun _ i _ => ps.length - (intOf i).toNat)
  case atStart => exact ⟨0, Nat.zero_le _, rfl, (fun j _ h => by omega), OwnB.nil _ _ _, h, Below.refl _ _⟩
  case round =>
    clear h
    obtain ⟨k, hk, rfl, hfit, own, P0, B0⟩ := hrel
    by_cases hlt : k < ps.length
    · obtain ⟨ad, s, rfl, h1, h2, h3, h4, h5⟩ := P0 k hlt
      have hin := hb _ (List.getElem_mem hlt)
      have HE := Lib.hid (enc_take ps k hlt)
      have hle := enc_take_le ps (k + 1)
      have hnext : ∀ j (hj : j < ps.length), j < k + 1 → ps[k].2.length ≤ 65531 → ps[j].2.length ≤ 65531 := fun j hj h hp => by
        rcases Nat.lt_succ_iff_lt_or_eq.1 h with h | h
        · exact hfit j hj h
        · subst h; exact hp
      have hbad : ¬ ps[k].2.length ≤ 65531 → allFit ps = false := fun hp => by
        unfold allFit
        rw [List.all_eq_false]
        exact ⟨ps[k], List.getElem_mem hlt, by simpa using hp⟩
      have HN := Lib.hid hnext
      have HX := Lib.hid hbad
      clear hnext hbad hfit
      generalize ps[k] = p at h3 h5 hin HE HN HX
      obtain ⟨kk, xs⟩ := p
      obtain ⟨As, cs, rfl⟩ := sl_shape h5
      rw [add_add_ _ _ _ (by decide)] at h4
      have hel : (encP (kk, xs)).length = all (xs.length + 4) := encP_len (kk, xs)
      have hzm := enc_mod (ps.take k)
      rw [HE.out, List.length_append] at hle
      have ha := all_add xs.length
      have h3' : wr.cell? (ad.add (k * 2)) = some (.int .u16 kk) := h3
      have hkl : (k : Int) < ps.length := by omega
      have hws := B0.size
      have S0 : PutSt w lo hi wr.heap.size (some ad) ps kk (.slice As xs.length cs) xs _ (enc (ps.take k)) (wr.alloc (.cells #[.int .u16 kk, .slice As xs.length cs] 57)) :=
        ⟨OwnB.fr own (S := nothing) ((Fr.refl _ wr).alloc _) (fun _ _ h => h), P0.fr (S := nothing) ((Fr.refl _ wr).alloc _) (fun _ _ _ h => h), Blk.new wr _ _, SlB.fr h5 (S := nothing) ((Fr.refl _ wr).alloc _) (fun _ _ _ h => h), B0.alloc hws _, hhi⟩
      obtain ⟨hk0, hk1, hxb⟩ := hin
      replace hk0 : 0 ≤ kk := hk0
      replace hk1 : kk < 65536 := hk1
      have HFIN := Lib.hid (show enc (ps.take (k + 1)) = _ from (HE.out.trans (encP_app (enc (ps.take k)) kk xs hzm)))
      obtain ⟨zs, hzs⟩ : ∃ zs, enc (ps.take k) = zs := ⟨_, rfl⟩
      rw [hzs] at S0 HFIN hle hzm
      obtain ⟨X0, n0, k0, rfl, hn0⟩ := S0.shape
      replace hn0 := Lib.hid hn0
      have hzl : zs.length + (all (xs.length + 4)) ≤ 140737488350000 := by rw [hel] at hle; omega
      rw [ha] at hzl
      clear hzs h3 own P0 h5 hle hel ha B0 HE hxb hzm
      by_cases hlong : xs.length ≤ 65531
      · have hld : decide ((65531 : Int) < xs.length) = false := decide_eq_false (by omega)
        have hl1 : zs.length + (txt kk 2).length ≤ 140737488355328 := by rw [txt_len]; omega
        have hl2 : (zs ++ txt kk 2).length + (txt ((xs.length : Int) + 4) 2).length ≤ 140737488355328 := by rw [List.length_append, txt_len, txt_len]; omega
        have hl3 : (zs ++ txt kk 2 ++ txt ((xs.length : Int) + 4) 2).length + xs.length ≤ 140737488355328 := by rw [List.length_append, List.length_append, txt_len, txt_len]; omega
        have hl4 : (zs ++ txt kk 2 ++ txt ((xs.length : Int) + 4) 2 ++ xs).length + 1000 ≤ 140737488355328 := by rw [List.length_append, List.length_append, List.length_append, txt_len, txt_len]; omega
        have hxl : xs.length ≤ 65531 := hlong
        have HL1 := Lib.hid hl1
        have HL2 := Lib.hid hl2
        have HL3 := Lib.hid hl3
        have HL4 := Lib.hid hl4
        have HZL := Lib.hid hzl
        clear HX hl1 hl2 hl3 hl4 hzl
        go_wp2_with fail
        refine (rtext_calls kk 2 _ (by omega) (by omega) (by decide)).mono ?_
        rintro e W1 ⟨A1, k1, c1, rfl, rfl, o1, B1⟩
        have S1 := S0.bl B1
        have r1 := rd_own o1 (txt_len kk 2)
        clear S0 h3' h4 B1 o1
        go_wp2_with (at_builtin; refine wpList_append_b _ rfl (.tmp 17) (.tmp 21) _ rfl w.heap.size 5 ib Try.underlying29 hib hbz0 hbz1 hbz2 _ _ rfl S1.1 _ _ _ _ _ (txt kk 2) rfl (txt_len kk 2).symm r1 HL1.out S1.size ?_; intro vS2 WS2 hown hg hat; have S2 := S1.app hown hg; have cP0 := S2.c0; have cP1 := S2.c1; obtain ⟨XS2, nS2, kS2, rfl, hnS2⟩ := S2.shape; replace hnS2 := Lib.hid hnS2; clear hown hg hat S1 r1)
        refine (rtext_calls ((xs.length : Int) + 4) 2 _ (by omega) (by omega) (by decide)).mono ?_
        rintro e W3 ⟨A3, k3, c3, rfl, rfl, o3, B3⟩
        have S3 := S2.bl B3
        have r3 := rd_own o3 (txt_len ((xs.length : Int) + 4) 2)
        have cP0 := S3.c0
        have cP1 := S3.c1
        clear S2 B3 o3
        go_wp2_with (first | (at_builtin; refine wpList_append_b _ rfl (.tmp 31) (.tmp 33) _ rfl w.heap.size 5 ib Try.underlying29 hib hbz0 hbz1 hbz2 _ _ rfl S4.1 _ _ _ _ _ xs rfl rfl r4 HL3.out S4.size ?_; intro vS5 WS5 hown hg hat; have S5 := S4.app hown hg; have cP0 := S5.c0; have cP1 := S5.c1; obtain ⟨XS5, nS5, kS5, rfl, hnS5⟩ := S5.shape; replace hnS5 := Lib.hid hnS5; clear hown hg hat S4 r4) | (at_builtin; refine wpList_append_b _ rfl (.tmp 23) (.tmp 29) _ rfl w.heap.size 5 ib Try.underlying29 hib hbz0 hbz1 hbz2 _ _ rfl S3.1 _ _ _ _ _ (txt ((xs.length : Int) + 4) 2) rfl (txt_len ((xs.length : Int) + 4) 2).symm r3 HL2.out S3.size ?_; intro vS4 WS4 hown hg hat; have S4 := S3.app hown hg; have cP0 := S4.c0; have cP1 := S4.c1; obtain ⟨XS4, nS4, kS4, rfl, hnS4⟩ := S4.shape; replace hnS4 := Lib.hid hnS4; clear hown hg hat S3 r3; have r4 := rd_sl S4.2.2.2.1))
        refine (rpad_calls _ _ 4 _ (OwnB.low S5.1 (Nat.zero_le _)) HL4.out (by decide)).mono ?_
        rintro e W6 ⟨A6, k6, c6, rfl, hk6, ap⟩
        replace hk6 := Lib.hid hk6
        have HS6 := Lib.hid (S5.pad ap)
        clear S5 ap cP0 cP1
        go_wp2
        go_roundw
        case rel =>
          have S6 := HS6.out
          refine ⟨k + 1, by omega, by go_num, (fun j hj h => HN.out j hj h hlong), ?_, S6.2.1, S6.2.2.2.2.1⟩
          rw [HFIN.out]
          have o6 := S6.1
          have hpt : ∀ m : Nat, padTo m 4 = (4 - m % 4) % 4 := fun m => rfl
          rw [hpt, txt_two, txt_two, Int.add_comm (xs.length : Int) 4] at o6
          exact o6
        case measure => simp [intOf]; omega
      · have hld : decide ((65531 : Int) < xs.length) = true := decide_eq_true (by omega)
        have HF := HX.out hlong
        have B1 := S0.2.2.2.2.1
        go_wp2
        go_ret2
        refine ⟨B1, ?_⟩
        rw [HF]
        rfl
    · obtain rfl : k = ps.length := by omega
      rw [List.take_length] at own
      have hall : allFit ps = true := List.all_eq_true.2 fun p hp => by
        obtain ⟨j, hj, rfl⟩ := List.mem_iff_getElem.1 hp
        simpa using hfit j hj hj
      obtain ⟨A9, c9, rfl, -, -⟩ := OwnB.slice own
      have hkl : ¬ ((ps.length : Nat) : Int) < ps.length := by omega
      clear hfit
      go_wp2
      go_ret2
      refine ⟨B0, ?_⟩
      rw [hall]
      exact ⟨_, _, rfl, own⟩
end Go.Proofs.Ytaifihoheieneaa.Prm
