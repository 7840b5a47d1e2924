/- The contract of flumeref06.Size. Conditions: the chunk's lists lie in blocks of before. -/
import Derived.Test.YtaifihoheieneaaChkMath
namespace Go.Proofs.Ytaifihoheieneaa.Chk
open Go.RowKit Go.Proofs.Ytaifihoheieneaa.Mem Go.Proofs.Ytaifihoheieneaa.Octet Go.Proofs.Ytaifihoheieneaa.Prm
set_option linter.unusedVariables false
set_option linter.unusedSimpArgs false
/-- The sum over the parameters, as Size makes it. -/
def szP : List Pm → Int → Int
  | [], n => n
  | p :: ps, n => if 1000000 < n ∨ 1000000 < (p.2.length : Int) then 1000001 else szP ps (n + (4 + (p.2.length : Int)))
def szM (c : Ck) : Int := mx (mx (mx (mx (c.gaps.length : Int) c.dups.length) c.skips.length) c.body.length) c.ps.length
def szC (c : Ck) : Int := if 1000000 < szM c then 1000001 else szP c.ps (4 * (c.gaps.length : Int) + 4 * (c.dups.length : Int) + 8 * (c.skips.length : Int) + c.body.length)
theorem max_five (ats : Array TypeId) (ty : TypeId) (a b c d e : Value) : Builtin.max_ ats ty #[a, b, c, d, e] = (Builtin.max2 a b >>= fun s => Builtin.max2 s c >>= fun s => Builtin.max2 s d >>= fun s => Builtin.max2 s e >>= fun s => pure s) := by
  simp only [Builtin.max_, List.foldlM_cons, List.foldlM_nil]
attribute [local go_sem] max2_mx max_five
set_option maxHeartbeats 4000000 in
set_option maxRecDepth 100000 in
theorem size_calls (lo hi : Nat) (cs : Array Value) (c : Ck) (w : World) (hC : CkV w lo hi cs c) (hhi : hi ≤ w.heap.size) (hp : c.ps.length ≤ maxLen) :
    Calls Try.prog 11 #[.agg cs] w fun e w' => e = .returned (.int .i64 (szC c)) ∧ Below w.heap.size w w' := by
  have hsz := hC.size
  have B0 : Below w.heap.size w (w.alloc (.cells cs 31)) := (Below.refl _ w).alloc (Nat.le_refl _) _
  have bC := Blk.new w cs 31
  have hC1 := hC.fr (S := nothing) ((Fr.refl _ w).alloc (.cells cs 31)) (fun _ _ _ h => h)
  obtain ⟨A14, p14, e14, -⟩ := hC1.c14
  obtain ⟨A15, p15, e15, -⟩ := hC1.c15
  obtain ⟨A16, p16, e16, -⟩ := hC1.c16
  obtain ⟨A17, p17, e17, P17⟩ := hC1.c17
  obtain ⟨A18, p18, e18, -⟩ := hC1.c18
  have k14 := (bC.cell 14).trans e14
  have k15 := (bC.cell 15).trans e15
  have k16 := (bC.cell 16).trans e16
  have k17 := (bC.cell 17).trans e17
  have k18 := (bC.cell 18).trans e18
  have hsc : szC c = if 1000000 < szM c then 1000001 else szP c.ps (4 * (c.gaps.length : Int) + 4 * (c.dups.length : Int) + 8 * (c.skips.length : Int) + c.body.length) := rfl
  have hsm : szM c = mx (mx (mx (mx (c.gaps.length : Int) c.dups.length) c.skips.length) c.body.length) c.ps.length := rfl
  have mxa : ∀ a b : Int, a ≤ mx a b ∧ b ≤ mx a b := fun a b => by unfold mx; split <;> omega
  have hml : maxLen = 9223372036854775807 := rfl
  have hpm := hp
  rw [hml] at hpm
  clear hC hC1 hml
  have hle : c.gaps.length ≤ szM c ∧ c.dups.length ≤ szM c ∧ c.skips.length ≤ szM c ∧ c.body.length ≤ szM c ∧ c.ps.length ≤ szM c := by
    rw [hsm]
    have h1 := mxa (c.gaps.length : Int) c.dups.length
    have h2 := mxa (mx (c.gaps.length : Int) c.dups.length) c.skips.length
    have h3 := mxa (mx (mx (c.gaps.length : Int) c.dups.length) c.skips.length) c.body.length
    have h4 := mxa (mx (mx (mx (c.gaps.length : Int) c.dups.length) c.skips.length) c.body.length) c.ps.length
    omega
  by_cases hb : 1000000 < szM c
  · rw [hsc, if_pos hb]
    have hd : decide ((1000000 : Int) < mx (mx (mx (mx (c.gaps.length : Int) c.dups.length) c.skips.length) c.body.length) c.ps.length) = true := decide_eq_true (by rw [← hsm]; exact hb)
    clear hsc hsm hb hle mxa
    go_enter Try.func11, Try.ntmps11
    go_wp2
    go_ret
    exact ⟨rfl, B0⟩
  · rw [hsc, if_neg hb]
    have hd : decide ((1000000 : Int) < mx (mx (mx (mx (c.gaps.length : Int) c.dups.length) c.skips.length) c.body.length) c.ps.length) = false := decide_eq_false (by rw [← hsm]; exact hb)
    have l14 : c.gaps.length ≤ 1000000 := by omega
    have l15 : c.dups.length ≤ 1000000 := by omega
    have l16 : c.skips.length ≤ 1000000 := by omega
    have l18 : c.body.length ≤ 1000000 := by omega
    have l17 : c.ps.length ≤ 1000000 := by omega
    obtain ⟨S0, hS0⟩ : ∃ S0 : Int, 4 * (c.gaps.length : Int) + 4 * (c.dups.length : Int) + 8 * (c.skips.length : Int) + c.body.length = S0 := ⟨_, rfl⟩
    have hS1 : 0 ≤ S0 ∧ S0 ≤ 17000000 := by omega
    rw [hS0]
    clear hsc hsm hb hle mxa hpm hp
    go_enter Try.func11, Try.ntmps11
    go_wp2_with fail
    have HS0 := Lib.hid hS0
    go_loopw [3, 44] (fun nv i wr => ∃ (k : Nat) (n : Int), k ≤ c.ps.length ∧ i = .int .i64 k ∧ nv = .int .i64 n ∧ 0 ≤ n ∧ n ≤ 17000000 ∧ szP c.ps S0 = szP (c.ps.drop k) n ∧ PmC wr lo hi A17 c.ps ∧ Below w.heap.size w wr) (fun _ i _ => c.ps.length - (intOf i).toNat)
    case atStart => exact ⟨0, S0, Nat.zero_le _, rfl, by first | rfl | (rw [← HS0.out]; rfl) | (simp [← HS0.out]), hS1.1, hS1.2, rfl, P17, B0⟩
    case round =>
      clear P17 B0 k14 k15 k16 k17 k18 bC hd hS0 HS0
      obtain ⟨k, n, hk, rfl, rfl, hn0, hn1, hs, P, B⟩ := hrel
      have HS := Lib.hid hs
      clear hs
      by_cases hlt : k < c.ps.length
      · obtain ⟨ad, s, rfl, h1, h2, h3, h4, h5⟩ := P k hlt
        have HD := Lib.hid (show szP c.ps S0 = szP (c.ps[k] :: c.ps.drop (k + 1)) n by rw [HS.out, List.drop_eq_getElem_cons hlt])
        generalize c.ps[k] = p at h3 h5 HD
        obtain ⟨kk, xs⟩ := p
        obtain ⟨As, cs', rfl⟩ := sl_shape h5
        rw [add_add_ _ _ _ (by decide)] at h4
        have h3' : wr.cell? (ad.add (k * 2)) = some (.int .u16 kk) := h3
        have hkl : (k : Int) < c.ps.length := by omega
        have P2 := P.fr (S := nothing) ((Fr.refl _ wr).alloc (.cells #[.int .u16 kk, .slice As xs.length cs'] 57)) (fun _ _ _ h => h)
        have B2 := B.alloc B.size (.cells #[.int .u16 kk, .slice As xs.length cs'] 57)
        have HP2 := Lib.hid P2
        have HB2 := Lib.hid B2
        clear h3 h5 P2 B2 P B HS
        by_cases hb1 : 1000000 < n
        · have hd1 : decide (1000000 < n) = true := decide_eq_true hb1
          have HF := Lib.hid (show szP c.ps S0 = 1000001 by rw [HD.out]; unfold szP; rw [if_pos (.inl hb1)])
          clear hb1
          go_wp2
          go_ret
          exact ⟨by rw [HF.out]; rfl, HB2.out⟩
        · have hd1 : decide (1000000 < n) = false := decide_eq_false hb1
          by_cases hb2 : 1000000 < (xs.length : Int)
          · have hd2 : decide (1000000 < (xs.length : Int)) = true := decide_eq_true hb2
            have HF := Lib.hid (show szP c.ps S0 = 1000001 by rw [HD.out]; unfold szP; rw [if_pos (.inr hb2)])
            clear hb1 hb2
            go_wp2
            go_ret
            exact ⟨by rw [HF.out]; rfl, HB2.out⟩
          · have HF := Lib.hid (show szP c.ps S0 = szP (c.ps.drop (k + 1)) (n + (4 + (xs.length : Int))) by rw [HD.out, szP]; rw [if_neg (by intro h; rcases h with h | h; exact hb1 h; exact hb2 h)])
            have hn2 : n ≤ 1000000 := by omega
            have hx2 : (xs.length : Int) ≤ 1000000 := by omega
            clear hb1 hb2 hd1 hn1
            have hd1 : decide (1000000 < n) = false := decide_eq_false (by omega)
            have hd2 : decide (1000000 < (xs.length : Int)) = false := decide_eq_false (by omega)
            go_wp2
            go_roundw
            case rel => exact ⟨k + 1, n + (4 + (xs.length : Int)), by omega, by go_num, rfl, by omega, by omega, HF.out, HP2.out, HB2.out⟩
            case measure => simp [intOf]; omega
      · obtain rfl : k = c.ps.length := by omega
        have HF := Lib.hid (show szP c.ps S0 = n by rw [HS.out, List.drop_length]; rfl)
        have hkl : ¬ ((c.ps.length : Nat) : Int) < c.ps.length := by omega
        go_wp2
        go_ret
        exact ⟨by rw [HF.out]; rfl, B⟩
/-- Chunks that are not too great. -/
theorem szP_tot : ∀ (ps : List Pm) (n : Int), szP ps n ≤ 400000 → ∃ t : Nat, szP ps n = n + t ∧ (enc ps).length ≤ 2 * t ∧ ps.length * 4 ≤ t
  | [], n, _ => ⟨0, by simp [szP], by simp [enc], by simp⟩
  | p :: ps, n, h => by
    unfold szP at h ⊢
    split
    · rename_i hc; rw [if_pos hc] at h; omega
    · rename_i hc
      rw [if_neg hc] at h
      obtain ⟨t, h1, h2, h3⟩ := szP_tot ps _ h
      refine ⟨t + 4 + p.2.length, by rw [h1]; omega, ?_, by simp; omega⟩
      show (encP p ++ enc ps).length ≤ _
      rw [List.length_append, encP_len]
      unfold all
      omega
theorem ckl_of {c : Ck} (h : szC c ≤ 400000) : CkL c := by
  unfold szC at h
  split at h
  · omega
  · obtain ⟨t, h1, h2, h3⟩ := szP_tot _ _ h
    rw [h1] at h
    exact ⟨by omega, by omega, by omega, by omega, by omega, by omega⟩
end Go.Proofs.Ytaifihoheieneaa.Chk
