/- Contract of flumelaw05.size. Conditions: the slice's blocks and its length. -/
import Derived.Test.YtoknjnaianhjaaaPrmSame
namespace Go.Proofs.Ytoknjnaianhjaaa.Prm
open Go.RowKit Go.Proofs.Ytoknjnaianhjaaa.Mem Go.Proofs.Ytoknjnaianhjaaa.Octet
set_option linter.unusedVariables false
set_option linter.unusedSimpArgs false
def szF : List Pm → Int → Int
  | [], n => n
  | p :: ps, n => if 200000 < n ∨ 200000 < (p.2.length : Int) then 200001 else szF ps (n + (4 + (p.2.length : Int)))
def tot : List Pm → Nat
  | [] => 0
  | p :: ps => 4 + p.2.length + tot ps
theorem szF_tot : ∀ (ps : List Pm) (n : Int), szF ps n ≤ 200000 → szF ps n = n + tot ps
  | [], n, _ => by simp [szF, tot]
  | p :: ps, n, h => by
    unfold szF at h ⊢
    split
    · rename_i hc; rw [if_pos hc] at h; omega
    · rename_i hc
      rw [if_neg hc] at h
      rw [szF_tot ps _ h]
      simp only [tot]
      omega
theorem tot_len (ps : List Pm) : ps.length * 4 ≤ tot ps := by
  induction ps with
  | nil => simp [tot]
  | cons p ps ih => simp [tot]; omega
theorem tot_enc (ps : List Pm) : (enc ps).length ≤ 2 * tot ps := by
  induction ps with
  | nil => simp [enc, tot]
  | cons p ps ih =>
    show (encP p ++ enc ps).length ≤ 2 * (4 + p.2.length + tot ps)
    rw [List.length_append, encP_len]
    unfold all
    omega
theorem tot_mem {ps : List Pm} {p : Pm} (h : p ∈ ps) : p.2.length + 4 ≤ tot ps := by
  induction ps with
  | nil => simp at h
  | cons q ps ih =>
    rcases List.mem_cons.1 h with rfl | h
    · simp only [tot]; omega
    · have := ih h; simp only [tot]; omega
set_option maxHeartbeats 2000000 in
theorem size_calls (lo hi : Nat) (A : Option Addr) (c : Nat) (ps : List Pm) (w : World) (h : PmC w lo hi A ps) (hhi : hi ≤ w.heap.size) (hn : ps.length ≤ 9223372036854775807) :
    Calls Try.prog 10 #[.slice A ps.length c] w fun e w' => e = .returned (.int .i64 (szF ps 0)) ∧ Below w.heap.size w w' := by
  have hup := Try.underlying43
  go_enter Try.func10, Try.ntmps10
  go_wp2_with fail
  go_loopw [3, 8] (fun nv i wr => ∃ (k : Nat) (n : Int), k ≤ ps.length ∧ i = .int .i64 k ∧ nv = .int .i64 n ∧ 0 ≤ n ∧ n ≤ 1000000 ∧ szF ps 0 = szF (ps.drop k) n ∧ PmC wr lo hi A ps ∧ Below w.heap.size w wr) (fun _ i _ => ps.length - (intOf i).toNat)
  case atStart => exact ⟨0, 0, Nat.zero_le _, rfl, rfl, by decide, by decide, rfl, h, Below.refl _ _⟩
  case round =>
    clear h
    obtain ⟨k, n, hk, rfl, rfl, hn0, hn1, hs, P, B⟩ := hrel
    have HS := Lib.hid hs
    clear hs
    by_cases hlt : k < ps.length
    · obtain ⟨ad, s, rfl, h1, h2, h3, h4, h5⟩ := P k hlt
      have HD := Lib.hid (show szF ps 0 = szF (ps[k] :: ps.drop (k + 1)) n by rw [HS.out, List.drop_eq_getElem_cons hlt])
      generalize ps[k] = p at h3 h5 HD
      obtain ⟨kk, xs⟩ := p
      obtain ⟨As, cs, rfl⟩ := sl_shape h5
      rw [add_add_ _ _ _ (by decide)] at h4
      have h3' : wr.cell? (ad.add (k * 2)) = some (.int .u16 kk) := h3
      have hkl : (k : Int) < ps.length := by omega
      have P2 := P.fr (S := nothing) ((Fr.refl _ wr).alloc (.cells #[.int .u16 kk, .slice As xs.length cs] 43)) (fun _ _ _ h => h)
      have B2 := B.alloc B.size (.cells #[.int .u16 kk, .slice As xs.length cs] 43)
      have HP2 := Lib.hid P2
      have HB2 := Lib.hid B2
      clear h3 h5 P2 B2 P B HS
      by_cases hb1 : 200000 < n
      · have hd1 : decide (200000 < n) = true := decide_eq_true hb1
        have HF := Lib.hid (show szF ps 0 = 200001 by rw [HD.out]; unfold szF; rw [if_pos (.inl hb1)])
        clear hb1
        go_wp2
        go_ret
        exact ⟨by rw [HF.out]; rfl, HB2.out⟩
      · have hd1 : decide (200000 < n) = false := decide_eq_false hb1
        by_cases hb2 : 200000 < (xs.length : Int)
        · have hd2 : decide (200000 < (xs.length : Int)) = true := decide_eq_true hb2
          have HF := Lib.hid (show szF ps 0 = 200001 by rw [HD.out]; unfold szF; rw [if_pos (.inr hb2)])
          clear hb1 hb2
          go_wp2
          go_ret
          exact ⟨by rw [HF.out]; rfl, HB2.out⟩
        · have hd2 : decide (200000 < (xs.length : Int)) = false := decide_eq_false hb2
          have HF := Lib.hid (show szF ps 0 = szF (ps.drop (k + 1)) (n + (4 + (xs.length : Int))) by rw [HD.out, szF]; rw [if_neg (by intro h; rcases h with h | h; exact hb1 h; exact hb2 h)])
          have hn2 : n ≤ 200000 := by omega
          have hx2 : (xs.length : Int) ≤ 200000 := by omega
          clear hb1 hb2 hd1 hd2 hn1
          have hd1 : decide (200000 < n) = false := decide_eq_false (by omega)
          have hd2 : decide (200000 < (xs.length : Int)) = false := decide_eq_false (by omega)
          go_wp2
          go_roundw
          case rel => exact ⟨k + 1, n + (4 + (xs.length : Int)), by omega, by go_num, rfl, by omega, by omega, HF.out, HP2.out, HB2.out⟩
          case measure => simp [intOf]; omega
    · obtain rfl : k = ps.length := by omega
      have HF := Lib.hid (show szF ps 0 = n by rw [HS.out, List.drop_length]; rfl)
      have hkl : ¬ ((ps.length : Nat) : Int) < ps.length := by omega
      go_wp2
      go_ret
      exact ⟨by rw [HF.out]; rfl, B⟩
end Go.Proofs.Ytoknjnaianhjaaa.Prm
