/- Lists of parameters in memory; contract of param.Put. Conditions: each names its blocks and the bounds. -/
import Derived.Test.YtaifihoheieneaaPrmMath
import Derived.Test.YtaifihoheieneaaOcRef
import Derived.Test.YtaifihoheieneaaOcF
import Derived.Test.YtaifihoheieneaaBstr
namespace Go.Proofs.Ytaifihoheieneaa.Prm
open Go.RowKit Go.Proofs.Ytaifihoheieneaa.Mem Go.Proofs.Ytaifihoheieneaa.Octet
set_option linter.unusedVariables false
set_option linter.unusedSimpArgs false
/-- Parameters that lie in blocks from lo on, below hi, their bytes too. -/
def PmC (w : World) (lo hi : Nat) (A : Option Addr) (ps : List Pm) : Prop :=
  ∀ i (h : i < ps.length), ∃ ad s, A = some ad ∧ lo ≤ ad.block ∧ ad.block < hi ∧ w.cell? (ad.add (i * 2)) = some (.int .u16 ps[i].1) ∧ w.cell? ((ad.add (i * 2)).add 1) = some s ∧ SlB w lo hi s ps[i].2
/-- A slice of parameters, as a value. -/
def PmS (w : World) (lo hi : Nat) (v : Value) (ps : List Pm) : Prop := ∃ A cap, v = .slice A ps.length cap ∧ PmC w lo hi A ps
/-- Numbers in their bounds. -/
def InB (p : Pm) : Prop := 0 ≤ p.1 ∧ p.1 < 65536 ∧ IsB p.2
theorem PmC.fr {w w' : World} {lo hi : Nat} {A : Option Addr} {ps : List Pm} {S : Nat → Prop} (h : PmC w lo hi A ps) (f : Fr S w w') (hs : ∀ k, lo ≤ k → k < hi → ¬ S k) : PmC w' lo hi A ps := by
  intro i hi'
  obtain ⟨ad, s, e, h1, h2, h3, h4, h5⟩ := h i hi'
  have key : ∀ p v, p.block = ad.block → w.cell? p = some v → w'.cell? p = some v := fun p v hp hc => by
    have hb := World.block_lt_of_cell? w _ hc
    rw [hp] at hb
    exact (World.cell?_of_block (by rw [hp]; exact f.block _ hb (hs _ h1 h2))).trans hc
  exact ⟨ad, s, e, h1, h2, key _ _ (add_block _ _) h3, key _ _ (by rw [add_block, add_block]) h4, h5.fr f hs⟩
theorem PmC.bl {w w' : World} {lo hi base : Nat} {A : Option Addr} {ps : List Pm} (h : PmC w lo hi A ps) (f : Below base w w') (hb : hi ≤ base) : PmC w' lo hi A ps :=
  h.fr (Bl.fr f) (fun k _ h2 h3 => by omega)
theorem PmS.fr {w w' : World} {lo hi : Nat} {v : Value} {ps : List Pm} {S : Nat → Prop} (h : PmS w lo hi v ps) (f : Fr S w w') (hs : ∀ k, lo ≤ k → k < hi → ¬ S k) : PmS w' lo hi v ps := by
  obtain ⟨A, cap, e, h⟩ := h
  exact ⟨A, cap, e, h.fr f hs⟩
theorem PmS.bl {w w' : World} {lo hi base : Nat} {v : Value} {ps : List Pm} (h : PmS w lo hi v ps) (f : Below base w w') (hb : hi ≤ base) : PmS w' lo hi v ps :=
  h.fr (Bl.fr f) (fun k _ h2 h3 => by omega)
def allFit (ps : List Pm) : Bool := ps.all fun p => decide (p.2.length ≤ 65531)
theorem fit_of {ps : List Pm} (h1 : ∀ p ∈ ps, InB p) (h2 : allFit ps = true) : ∀ p ∈ ps, Fit p := fun p hp => by
  have := List.all_eq_true.1 h2 p hp
  obtain ⟨a, b, c⟩ := h1 p hp
  exact ⟨a, b, c, by simpa using this⟩
theorem isb_encP {p : Pm} (h : Fit p) : IsB (encP p) := by
  intro x hx
  unfold encP at hx
  simp only [List.mem_append, List.mem_cons, List.not_mem_nil, or_false] at hx
  rcases hx with (hx | hx | hx | hx) | hx | hx
  · omega
  · omega
  · omega
  · omega
  · exact h.2.2.1 x hx
  · have := List.eq_of_mem_replicate hx; omega
theorem isb_enc {ps : List Pm} (h : ∀ p ∈ ps, Fit p) : IsB (enc ps) := by
  induction ps with
  | nil => intro x hx; cases hx
  | cons p ps ih =>
    intro x hx
    rcases List.mem_append.1 (show x ∈ encP p ++ enc ps from hx) with hx | hx
    · exact isb_encP (h p (by simp)) x hx
    · exact ih (fun q hq => h q (List.mem_cons_of_mem _ hq)) x hx
theorem enc_len_le (ps : List Pm) : ps.length * 4 ≤ (enc ps).length := by
  induction ps with
  | nil => simp
  | cons p ps ih =>
    show (ps.length + 1) * 4 ≤ (encP p ++ enc ps).length
    have := encP_pos p
    rw [List.length_append]
    omega
theorem enc_take (ps : List Pm) (k : Nat) (h : k < ps.length) : enc (ps.take (k + 1)) = enc (ps.take k) ++ encP ps[k] := by
  rw [List.take_add_one, List.getElem?_eq_getElem h, enc_app]
  congr 1
  show encP ps[k] ++ enc [] = _
  rw [show enc [] = [] from rfl, List.append_nil]
theorem enc_mod (ps : List Pm) : (enc ps).length % 4 = 0 := by
  induction ps with
  | nil => rfl
  | cons p ps ih =>
    show (encP p ++ enc ps).length % 4 = 0
    rw [List.length_append, encP_len]
    unfold all
    omega
theorem enc_take_le (ps : List Pm) (k : Nat) : (enc (ps.take k)).length ≤ (enc ps).length := by
  have : enc ps = enc (ps.take k) ++ enc (ps.drop k) := by rw [← enc_app, List.take_append_drop]
  rw [this, List.length_append]
  omega
theorem sl_shape {w : World} {lo hi : Nat} {s : Value} {xs : List Int} (h : SlB w lo hi s xs) : ∃ A cap, s = .slice A xs.length cap := by
  obtain ⟨A, cap, e, _⟩ := h; exact ⟨A, cap, e⟩
theorem encP_app (zs : List Int) (kk : Int) (xs : List Int) (h : zs.length % 4 = 0) : zs ++ encP (kk, xs) =
    zs ++ [kk / 256 % 256, kk % 256] ++ [(4 + (xs.length : Int)) / 256 % 256, (4 + (xs.length : Int)) % 256] ++ xs ++ List.replicate ((4 - (zs ++ [kk / 256 % 256, kk % 256] ++ [(4 + (xs.length : Int)) / 256 % 256, (4 + (xs.length : Int)) % 256] ++ xs).length % 4) % 4) 0 := by
  have e : ((xs.length + 4 : Nat) : Int) = 4 + (xs.length : Int) := by omega
  have e2 : (4 - (zs ++ [kk / 256 % 256, kk % 256] ++ [(4 + (xs.length : Int)) / 256 % 256, (4 + (xs.length : Int)) % 256] ++ xs).length % 4) % 4 = pz xs.length := by
    unfold pz
    simp only [List.length_append, List.length_cons, List.length_nil]
    omega
  rw [e2]
  unfold encP
  rw [e]
  simp [List.append_assoc]
/-- What param.Put hands back. -/
def PutR (w : World) (ps : List Pm) (e : Ending) (w' : World) : Prop :=
  Below w.heap.size w w' ∧ if allFit ps then ∃ B c, e = .returned (.tuple #[.slice B (enc ps).length c, .int .i64 0]) ∧ OwnB w' w.heap.size 5 (.slice B (enc ps).length c) (enc ps)
    else e = .returned (.tuple #[.slice none 0 0, .int .i64 43])
set_option maxHeartbeats 2000000 in
theorem put_calls (lo hi : Nat) (A : Option Addr) (cap : Nat) (ps : List Pm) (w : World) (h : PmC w lo hi A ps) (hhi : hi ≤ w.heap.size) (hb : ∀ p ∈ ps, InB p) (hl : (enc ps).length ≤ 140737488355000) (hn : ps.length ≤ 140737488355328) :
    Calls Try.prog 49 #[.slice A ps.length cap] w (PutR w ps) := by
  have hup := Try.underlying57
  go_enter Try.func49, Try.ntmps49
  go_wp2_with fail
  have W0 := WtrN.new w
  have B0 := (Below.refl w.heap.size w).alloc (Nat.le_refl _) (.cells #[.slice none 0 0] 60)
  have P0 := h.bl B0 hhi
  clear h
  go_loopw [9] (fun i wr => ∃ k : Nat, k ≤ ps.length ∧ i = .int .i64 k ∧ (∀ j (hj : j < ps.length), j < k → ps[j].2.length ≤ 65531) ∧ WtrN wr w.heap.size w.heap.size (enc (ps.take k)) ∧ PmC wr lo hi A ps ∧ Below w.heap.size w wr) (fun i _ => ps.length - (intOf i).toNat)
  case atStart => exact ⟨0, Nat.zero_le _, rfl, (fun j _ h => by omega), W0, P0, B0⟩
  case round =>
    clear W0 P0 B0
    obtain ⟨k, hk, rfl, hfit, W0, P0, B0⟩ := hrel
    by_cases hlt : k < ps.length
    · obtain ⟨ad, s, rfl, h1, h2, h3, h4, h5⟩ := P0 k hlt
      have hin := hb _ (List.getElem_mem hlt)
      have HE := Lib.hid (enc_take ps k hlt)
      have hle := enc_take_le ps (k + 1)
      have hnext : ∀ j (hj : j < ps.length), j < k + 1 → ps[k].2.length ≤ 65531 → ps[j].2.length ≤ 65531 := fun j hj h hp => by
        rcases Nat.lt_succ_iff_lt_or_eq.1 h with h | h
        · exact hfit j hj h
        · subst h; exact hp
      have hbad : ¬ ps[k].2.length ≤ 65531 → allFit ps = false := fun hp => by
        unfold allFit
        rw [List.all_eq_false]
        exact ⟨ps[k], List.getElem_mem hlt, by simpa using hp⟩
      have HN := Lib.hid hnext
      have HX := Lib.hid hbad
      clear hnext hbad hfit
      generalize ps[k] = p at h3 h5 hin HE HN HX
      obtain ⟨kk, xs⟩ := p
      obtain ⟨As, cs, rfl⟩ := sl_shape h5
      rw [add_add_ _ _ _ (by decide)] at h4
      have hx : encP (kk, xs) = [kk / 256 % 256, kk % 256] ++ [((xs.length + 4 : Nat) : Int) / 256 % 256, ((xs.length + 4 : Nat) : Int) % 256] ++ xs ++ List.replicate (pz xs.length) 0 := by simp [encP]
      have hel := encP_len (kk, xs)
      rw [HE.out, List.length_append] at hle
      have ha := all_add xs.length
      have h3' : wr.cell? (ad.add (k * 2)) = some (.int .u16 kk) := h3
      have hxs : SlB wr lo hi (.slice As xs.length cs) xs := h5
      clear h3 h5
      replace P0 := P0.fr (S := nothing) ((Fr.refl _ wr).alloc (.cells #[.int .u16 kk, .slice As xs.length cs] 57)) (fun _ _ _ h => h)
      replace hxs := SlB.fr hxs (S := nothing) ((Fr.refl _ wr).alloc (.cells #[.int .u16 kk, .slice As xs.length cs] 57)) (fun _ _ _ h => h)
      have WF := WtrF.hold (F := only wr.heap.size) W0 ((Below.refl wr.heap.size wr).alloc (Nat.le_refl _) (.cells #[.int .u16 kk, .slice As xs.length cs] 57)) (fun k h => by omega) (fun k h => by simp; omega)
      have bP := Blk.new wr #[.int .u16 kk, .slice As xs.length cs] 57
      clear W0
      have B1 := B0.alloc B0.size (.cells #[.int .u16 kk, .slice As xs.length cs] 57)
      have hws := B0.size
      by_cases hlong : xs.length ≤ 65531
      · have hld : decide ((65531 : Int) < xs.length) = false := decide_eq_false (by omega)
        have hsub : ∀ b, lo ≤ b → b < hi → ¬ OwnF (only wr.heap.size) w.heap.size b := fun b _ h2 h3 => by have := h3.1; omega
        clear HX
        go_wp2_with fail
        refine (u16f_calls _ _ _ _ kk _ WF (by omega)).mono ?_
        rintro e w1 ⟨rfl, W, f⟩
        replace P0 := P0.fr f hsub
        replace hxs := SlB.fr hxs f hsub
        replace bP := Blk.fr bP f (fun h => h.2 rfl)
        replace B1 := Bl.trans B1 (Bl.of_fr f B1.size (fun k h => h.1))
        have cP0 := bP.cell 0
        have cP1 := bP.cell 1
        simp at cP0 cP1
        clear WF f
        have WF := W
        clear W
        clear h3' h4
        go_wp2_with fail
        refine (u16f_calls _ _ _ _ _ _ WF (by simp; omega)).mono ?_
        rintro e w2 ⟨rfl, W, f⟩
        replace P0 := P0.fr f hsub
        replace hxs := SlB.fr hxs f hsub
        replace bP := Blk.fr bP f (fun h => h.2 rfl)
        replace B1 := Bl.trans B1 (Bl.of_fr f B1.size (fun k h => h.1))
        have cP0 := bP.cell 0
        have cP1 := bP.cell 1
        simp at cP0 cP1
        clear WF f
        have WF := W
        clear W
        go_wp2_with fail
        refine (putf_calls _ _ _ _ _ _ _ xs _ WF hxs (by simp; omega)).mono ?_
        rintro e w3 ⟨rfl, W, f⟩
        replace P0 := P0.fr f hsub
        replace hxs := SlB.fr hxs f hsub
        replace bP := Blk.fr bP f (fun h => h.2 rfl)
        replace B1 := Bl.trans B1 (Bl.of_fr f B1.size (fun k h => h.1))
        have cP0 := bP.cell 0
        have cP1 := bP.cell 1
        simp at cP0 cP1
        clear WF f
        have WF := W
        clear W
        go_wp2_with fail
        refine (padf_calls _ _ _ _ 4 _ WF (by simp; omega) (by decide)).mono ?_
        rintro e w4 ⟨rfl, W, f⟩
        replace P0 := P0.fr f hsub
        replace hxs := SlB.fr hxs f hsub
        replace bP := Blk.fr bP f (fun h => h.2 rfl)
        replace B1 := Bl.trans B1 (Bl.of_fr f B1.size (fun k h => h.1))
        have cP0 := bP.cell 0
        have cP1 := bP.cell 1
        simp at cP0 cP1
        clear WF f
        have WF := W
        clear W
        have HFIN := Lib.hid (show enc (ps.take (k + 1)) = _ from (HE.out.trans (encP_app (enc (ps.take k)) kk xs (enc_mod _))))
        have WN := WF.free
        rw [← HFIN.out] at WN
        have HWN := Lib.hid WN
        have HP0 := Lib.hid P0
        have HB1 := Lib.hid B1
        clear WF WN hxs bP cP0 cP1 hel HFIN P0 B1 B0
        go_wp2
        go_roundw
        case rel => exact ⟨k + 1, by omega, by go_num, (fun j hj h => HN.out j hj h hlong), HWN.out, HP0.out, HB1.out⟩
        case measure => simp [intOf]; omega
      · have hld : decide ((65531 : Int) < xs.length) = true := decide_eq_true (by omega)
        have HF := HX.out hlong
        go_wp2
        go_ret2
        refine ⟨B1, ?_⟩
        rw [HF]
        rfl
    · obtain rfl : k = ps.length := by omega
      rw [List.take_length] at W0
      have hall : allFit ps = true := List.all_eq_true.2 fun p hp => by
        obtain ⟨j, hj, rfl⟩ := List.mem_iff_getElem.1 hp
        simpa using hfit j hj hj
      clear hfit
      go_wp2_with fail
      refine (outn_calls _ _ _ _ W0 (by omega)).mono ?_
      rintro e w9 ⟨A9, n9, c9, rfl, rfl, -, o9, W9, B9⟩
      go_wp2
      go_ret2
      refine ⟨Bl.trans B0 (Bl.low B9 B0.size), ?_⟩
      rw [hall]
      exact ⟨_, _, rfl, OwnB.low o9 B0.size⟩
end Go.Proofs.Ytaifihoheieneaa.Prm
