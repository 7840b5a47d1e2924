/- Contracts of flumeref05.Same and flumelaw05.size. Conditions: each names its blocks and the bounds. -/
import Derived.Test.YtoknjnaianhjaaaPrmGet
import Derived.Deep.RegionHeldLaw
namespace Go.Proofs.Ytoknjnaianhjaaa.Prm
open Go.RowKit Go.Proofs.Ytoknjnaianhjaaa.Mem Go.Proofs.Ytoknjnaianhjaaa.Octet
set_option linter.unusedVariables false
set_option linter.unusedSimpArgs false
theorem slb_str_d {w : World} {lo hi : Nat} {A : Option Addr} {n cap : Nat} {xs : List Int} (h : SlB w lo hi (.slice A n cap) xs) :
    (convert 26 9 (.slice A n cap)).run Try.prog w.drew = .ok (.string (bstr xs)) w.drew :=
  slb_str (SlB.fr h (S := nothing) (Fr.refl _ _).drew (fun _ _ _ h => h))
set_option maxHeartbeats 2000000 in
theorem same_calls (lo hi lo2 hi2 : Nat) (A B : Option Addr) (c c2 : Nat) (ps qs : List Pm) (w : World) (h : PmC w lo hi A ps) (h2 : PmC w lo2 hi2 B qs) (hb : ∀ p ∈ ps, InB p) (hb2 : ∀ p ∈ qs, InB p) (hx : ps.length ≤ 9223372036854775807) :
    Calls Try.prog 14 #[.slice A ps.length c, .slice B qs.length c2] w fun e w' => e = .returned (.bool (decide (ps = qs))) ∧ Below w.heap.size w w' := by
  have hup := Try.underlying43
  by_cases hl : ps.length = qs.length
  · have hld : ((ps.length : Int) != qs.length) = false := by simp; omega
    have HLL := Lib.hid hl
    clear hl
    go_enter Try.func14, Try.ntmps14
    go_wp2_with fail
    go_loopw [13] (fun i wr => ∃ k : Nat, k ≤ ps.length ∧ i = .int .i64 k ∧ (∀ j (h1 : j < ps.length) (h2 : j < qs.length), j < k → ps[j] = qs[j]) ∧ PmC wr lo hi A ps ∧ PmC wr lo2 hi2 B qs ∧ Below w.heap.size w wr) (fun i _ => ps.length - (intOf i).toNat)
    case atStart => exact ⟨0, Nat.zero_le _, rfl, (fun j _ _ h => by omega), h, h2, Below.refl _ _⟩
    case round =>
      clear h h2
      obtain ⟨k, hk, rfl, hall, P1, P2, B1⟩ := hrel
      have HA := Lib.hid hall
      clear hall
      by_cases hlt : k < ps.length
      · have hlt2 : k < qs.length := by have := HLL.out; omega
        obtain ⟨a1, s1, rfl, -, -, c10, c11, b1⟩ := P1 k hlt
        obtain ⟨a2, s2, rfl, -, -, c20, c21, b2⟩ := P2 k hlt2
        have i1 := (hb _ (List.getElem_mem hlt)).2.2
        have i2 := (hb2 _ (List.getElem_mem hlt2)).2.2
        have k1 : (k : Int) < ps.length := by omega
        have k2 : (k : Int) < qs.length := by omega
        have HN := Lib.hid (show ps[k] = qs[k] → ∀ j (h1 : j < ps.length) (h2 : j < qs.length), j < k + 1 → ps[j] = qs[j] from fun he j h1 h2 hj => by
          rcases Nat.lt_succ_iff_lt_or_eq.1 hj with hj | rfl
          · exact HA.out j h1 h2 hj
          · exact he)
        have HD := Lib.hid (show ps[k] ≠ qs[k] → decide (ps = qs) = false from fun he => by simp; rintro rfl; exact he rfl)
        generalize ps[k] = p at c10 b1 i1 HN HD
        generalize qs[k] = q at c20 b2 i2 HN HD
        obtain ⟨u, xs⟩ := p
        obtain ⟨v, ys⟩ := q
        obtain ⟨As1, cs1, rfl⟩ := sl_shape b1
        obtain ⟨As2, cs2, rfl⟩ := sl_shape b2
        rw [add_add_ _ _ _ (by decide)] at c11 c21
        have t1 := slb_str_d b1
        have t2 := slb_str_d b2
        have c10' : wr.cell? (a1.add (k * 2)) = some (.int .u16 u) := c10
        have c20' : wr.cell? (a2.add (k * 2)) = some (.int .u16 v) := c20
        have HB := bstr_beq i1 i2
        have t1' : (convert 26 9 (.slice As1 xs.length cs1)).run Try.prog wr.drew = .ok (.string (bstr xs)) wr.drew := t1
        have t2' : (convert 26 9 (.slice As2 ys.length cs2)).run Try.prog wr.drew = .ok (.string (bstr ys)) wr.drew := t2
        have HB' : ((bstr xs).toList == (bstr ys).toList) = decide (xs = ys) := HB
        clear c10 c20 b1 b2 t1 t2 HB i1 i2 HA
        by_cases hu : u = v
        · subst hu
          have hne : (u != u) = false := by simp
          by_cases hxy : xs = ys
          · have HXY := Lib.hid hxy
            rw [decide_eq_true hxy] at HB'
            clear hxy
            go_upto_region 6 with fail
            go_region_held_law (fun wq => wq.cell? (a1.add (k * 2)) = some (.int .u16 u) ∧ wq.cell? ⟨(a1.add (k * 2)).block, (a1.add (k * 2)).off + 1, none⟩ = some (.slice As1 xs.length cs1) ∧ wq.cell? (a2.add (k * 2)) = some (.int .u16 u) ∧ wq.cell? ⟨(a2.add (k * 2)).block, (a2.add (k * 2)).off + 1, none⟩ = some (.slice As2 ys.length cs2) ∧
              (convert 26 9 (.slice As1 xs.length cs1)).run Try.prog wq = .ok (.string (bstr xs)) wq ∧ (convert 26 9 (.slice As2 ys.length cs2)).run Try.prog wq = .ok (.string (bstr ys)) wq) (exact ⟨c10', c11, c20', c21, t1', t2'⟩) (fail)
            all_goals
              rename_i hK hH
              refine hK _ _ ?_
              clear hK hH
            all_goals
              go_wp2
              go_roundw
              case rel => exact ⟨k + 1, by omega, by go_num, HN.out (by rw [HXY.out]), P1.fr (S := nothing) (Fr.refl _ _).drew (fun _ _ _ h => h), P2.fr (S := nothing) (Fr.refl _ _).drew (fun _ _ _ h => h), B1.drew⟩
              case measure => simp [intOf]; omega
          · have HF := Lib.hid (HD.out (by simpa using hxy))
            rw [decide_eq_false hxy] at HB'
            clear hxy
            go_upto_region 6 with fail
            go_region_held_law (fun wq => wq.cell? (a1.add (k * 2)) = some (.int .u16 u) ∧ wq.cell? ⟨(a1.add (k * 2)).block, (a1.add (k * 2)).off + 1, none⟩ = some (.slice As1 xs.length cs1) ∧ wq.cell? (a2.add (k * 2)) = some (.int .u16 u) ∧ wq.cell? ⟨(a2.add (k * 2)).block, (a2.add (k * 2)).off + 1, none⟩ = some (.slice As2 ys.length cs2) ∧
              (convert 26 9 (.slice As1 xs.length cs1)).run Try.prog wq = .ok (.string (bstr xs)) wq ∧ (convert 26 9 (.slice As2 ys.length cs2)).run Try.prog wq = .ok (.string (bstr ys)) wq) (exact ⟨c10', c11, c20', c21, t1', t2'⟩) (fail)
            all_goals
              rename_i hK hH
              refine hK _ _ ?_
              clear hK hH
            all_goals
              go_wp2
              go_ret
              exact ⟨by rw [HF.out]; rfl, B1.drew⟩
        · have hne : (u != v) = true := by simpa using hu
          have HF := Lib.hid (HD.out (by simp [hu]))
          clear hu HB' t1' t2'
          go_upto_region 6 with fail
          go_quiet (fail)
          go_wp2
          go_ret
          exact ⟨by rw [HF.out]; rfl, ⟨B1.os, B1.tape, B1.output, B1.size, B1.block⟩⟩
      · have HF := Lib.hid (show decide (ps = qs) = true by
          simp only [decide_eq_true_eq]
          exact List.ext_getElem HLL.out (fun i h1 h2 => HA.out i h1 h2 (by omega)))
        have k1 : ¬ (k : Int) < ps.length := by omega
        go_wp2
        go_ret
        exact ⟨by rw [HF.out]; rfl, B1⟩
  · have hld : ((ps.length : Int) != qs.length) = true := by simp; omega
    have HF := Lib.hid (show decide (ps = qs) = false by simp; rintro rfl; exact hl rfl)
    clear hl
    go_enter Try.func14, Try.ntmps14
    go_wp2
    go_ret
    exact ⟨by rw [HF.out]; rfl, Below.refl _ _⟩
end Go.Proofs.Ytoknjnaianhjaaa.Prm
