/- Contracts of the reference's Tape. Conditions: each names its blocks and the bounds. -/
import Derived.Test.YtdbndinnakkloaaDoorOcW
import Derived.BigQuiet
import Derived.Deep.QuietTactic
namespace Go.Proofs.YtdbndinnakkloaaDoor.Octet
open Go.RowKit Go.Proofs.YtdbndinnakkloaaDoor.Mem
set_option linter.unusedVariables false
set_option linter.unusedSimpArgs false

theorem tk_nil (n : Int) : tk [] n = [] := by unfold tk; split <;> simp
theorem lf_nil (n : Int) : lf [] n = [] := by unfold lf; split <;> simp
theorem bd_true (bs : List Int) (n : Int) : bd bs true n = true := by unfold bd; split <;> rfl
/-- A tape at block g: what is left, whether it is bad; its bytes lie in blocks from lo on, below hi. -/
def Tap (w : World) (g lo hi : Nat) (bs : List Int) (bad : Bool) : Prop :=
  ∃ A cap B t, Blk w g 63 #[.slice A B.length cap, .int .i64 (t : Nat), .bool bad] ∧ t ≤ B.length ∧ bs = B.drop t ∧ (bad = true → bs = []) ∧ B.length ≤ cap ∧ cap ≤ maxLen ∧ (A = none → cap = 0) ∧ RdB w lo hi A B
theorem Tap.fr {w w' : World} {g lo hi : Nat} {bs : List Int} {bad : Bool} {S : Nat → Prop} (h : Tap w g lo hi bs bad) (f : Fr S w w') (hg : ¬ S g) (hs : ∀ k, lo ≤ k → k < hi → ¬ S k) : Tap w' g lo hi bs bad := by
  obtain ⟨A, cap, B, t, h1, h2, h3, h4, h5, h6, h7, h8⟩ := h
  exact ⟨A, cap, B, t, h1.fr f hg, h2, h3, h4, h5, h6, h7, h8.fr f hs⟩
theorem Tap.lt {w : World} {g lo hi : Nat} {bs : List Int} {bad : Bool} (h : Tap w g lo hi bs bad) : g < w.heap.size := by
  obtain ⟨A, cap, B, t, h1, _⟩ := h; exact h1.lt
def TTake (w : World) (g lo hi : Nat) (bs : List Int) (bad : Bool) (n : Int) (e : Ending) (w' : World) : Prop :=
  ∃ A k c, e = .returned (.slice A k c) ∧ k = (tk bs n).length ∧ SlB w' lo hi (.slice A k c) (tk bs n) ∧ Tap w' g lo hi (lf bs n) (bd bs bad n) ∧ Fr (only g) w w'
theorem tt_fin {w : World} {g lo hi : Nat} {A : Option Addr} {cap t q u : Nat} {B : List Int} (hr : ¬ (lo ≤ g ∧ g < hi)) (h2 : t ≤ B.length) (h5 : B.length ≤ cap) (h6 : cap ≤ maxLen) (h7 : A = none → cap = 0) (h8 : RdB w lo hi A B)
    (hu : u = t + q) (hq : (q : Int) ≤ B.length - t) (w1 w2 : World) (A' : Option Addr) (c' : Nat) (hb : Blk w1 g 63 #[.slice A B.length cap, .int .i64 (u : Int), .bool false]) (F : Fr (only g) w w1) (F2 : Fr nothing w1 w2)
    (hA : A' = (if cap = t then A else A.map (·.add t)) ∧ c' = cap - t) : TTake w g lo hi (B.drop t) false q (.returned (.slice A' (u - t) c')) w2 := by
  obtain ⟨rfl, rfl⟩ := hA
  have hno : ¬ ((q : Int) < 0 ∨ ((B.drop t).length : Int) < q) := by simp; omega
  have e1 : tk (B.drop t) q = (B.drop t).take q := by unfold tk; rw [if_neg hno]; simp
  have e2 : lf (B.drop t) q = B.drop u := by unfold lf; rw [if_neg hno, hu]; simp
  have e3 : bd (B.drop t) false q = false := by unfold bd; rw [if_neg hno]
  have el : ((B.drop t).take q).length = q := by simp; omega
  have f2 : Fr (only g) w w2 := F.trans F2 (fun _ _ h => h.elim)
  have eq : u - t = q := by omega
  refine ⟨_, _, _, rfl, by rw [e1, el, eq], ?_, ?_, f2⟩
  · rw [e1, eq]
    refine ⟨_, _, by rw [el], by rw [el]; omega, by unfold maxLen at *; omega, fun h => ?_, ((h8.drop h2 h5).take q).fr f2 (fun k h1 h2 h3 => hr (by have e : k = g := h3; omega))⟩
    split at h
    · omega
    · have := h7 (by simpa using h); omega
  · rw [e2, e3]
    exact ⟨A, cap, B, u, hb.fr F2 (fun h => h), by omega, rfl, (fun h => by cases h), h5, h6, h7, h8.fr f2 (fun k h1 h2 h3 => hr (by have e : k = g := h3; omega))⟩
set_option maxHeartbeats 2000000 in
set_option maxRecDepth 100000 in
theorem ttake_calls (g lo hi : Nat) (bs : List Int) (bad : Bool) (n : Int) (w : World) (h : Tap w g lo hi bs bad) (hr : ¬ (lo ≤ g ∧ g < hi)) (n0 : -9223372036854775808 ≤ n) (n1 : n < 9223372036854775808) :
    Calls Tryd.prog 38 #[.pointer (some ⟨g, 0, none⟩), .int .i64 n] w (TTake w g lo hi bs bad n) := by
  obtain ⟨A, cap, B, t, hb, h2, rfl, h4, h5, h6, h7, h8⟩ := h
  have hml : maxLen = 9223372036854775807 := rfl
  have hlen : (B.drop t).length = B.length - t := by simp
  have hwr : IntKind.i64.wrap ((B.length : Int) - t) = (B.length : Int) - t := by rw [IntKind.wrap_i64]; omega
  have c0 := hb.cell 0
  have c1 := hb.cell 1
  have c2 := hb.cell 2
  have f0 := hb.frozen 0
  have f1 := hb.frozen 1
  have f2 := hb.frozen 2
  simp at c0 c1 c2
  have hut := Tryd.underlying63
  rcases bad with _ | _
  · rcases (show n < 0 ∨ 0 ≤ n by omega) with hn | hn
    · have hT := Lib.hid (show tk (B.drop t) n = [] ∧ lf (B.drop t) n = [] ∧ bd (B.drop t) false n = true from ⟨if_pos (.inl hn), if_pos (.inl hn), if_pos (.inl hn)⟩)
      go_enter Tryd.func38, Tryd.ntmps38
      go_wp2_with fail
      go_quiet (fail)
      go_wp2
      go_ret
      refine ⟨none, 0, 0, rfl, by rw [hT.out.1]; rfl, ?_, ?_, ((Fr.refl _ _).drewN nq).set_only 2 none _ |>.set_only 1 none _⟩
      · rw [hT.out.1]; exact ⟨none, 0, rfl, Nat.le_refl _, Nat.zero_le _, fun _ => rfl, RdB.nil _ _ _ _⟩
      · rw [hT.out.2.1, hT.out.2.2]
        refine ⟨A, cap, B, B.length, (((hb.drewN nq).set 2 _).set 1 _).cast (by simp), Nat.le_refl _, by simp, fun _ => rfl, h5, h6, h7, ?_⟩
        exact h8.fr (((Fr.refl (only g) w).drewN nq).set_only 2 none _ |>.set_only 1 none _) (fun k h1 h2 h3 => hr (by have e : k = g := h3; omega))
    · have hn' : ¬ n < 0 := by omega
      rcases (show (B.length : Int) - t < n ∨ n ≤ (B.length : Int) - t by omega) with hn2 | hn2
      · have hlt : ((B.drop t).length : Int) < n := by omega
        have hT := Lib.hid (show tk (B.drop t) n = [] ∧ lf (B.drop t) n = [] ∧ bd (B.drop t) false n = true from ⟨if_pos (.inr hlt), if_pos (.inr hlt), if_pos (.inr hlt)⟩)
        clear hlt hlen
        go_enter Tryd.func38, Tryd.ntmps38
        go_wp2_with fail
        go_quiet (fail)
        go_wp2
        go_ret
        refine ⟨none, 0, 0, rfl, by rw [hT.out.1]; rfl, ?_, ?_, ((Fr.refl _ _).drewN nq).set_only 2 none _ |>.set_only 1 none _⟩
        · rw [hT.out.1]; exact ⟨none, 0, rfl, Nat.le_refl _, Nat.zero_le _, fun _ => rfl, RdB.nil _ _ _ _⟩
        · rw [hT.out.2.1, hT.out.2.2]
          refine ⟨A, cap, B, B.length, (((hb.drewN nq).set 2 _).set 1 _).cast (by simp), Nat.le_refl _, by simp, fun _ => rfl, h5, h6, h7, ?_⟩
          exact h8.fr (((Fr.refl (only g) w).drewN nq).set_only 2 none _ |>.set_only 1 none _) (fun k h1 h2 h3 => hr (by have e : k = g := h3; omega))
      · obtain ⟨q, rfl⟩ : ∃ q : Nat, n = q := ⟨n.toNat, by omega⟩
        have hd0 : decide ((q : Int) < 0) = false := by simp
        have hd : decide ((B.length : Int) - t < q) = false := by simp; omega
        have hT := Lib.hid (show tk (B.drop t) q = (B.drop t).take q ∧ lf (B.drop t) q = B.drop (t + q) ∧ bd (B.drop t) false q = false from by
          have hno : ¬ ((q : Int) < 0 ∨ ((B.drop t).length : Int) < q) := by omega
          exact ⟨by unfold tk; rw [if_neg hno]; simp, by unfold lf; rw [if_neg hno]; simp, by unfold bd; rw [if_neg hno]⟩)
        have hw2 := Lib.hid (show IntKind.i64.wrap ((t : Int) + q) = (t : Int) + q by rw [IntKind.wrap_i64]; omega)
        have hw3 := Lib.hid (show IntKind.i64.wrap ((t : Int) + q - q) = (t : Int) by rw [IntKind.wrap_i64]; omega)
        have b2 := Lib.hid (show (t : Int) + q ≤ cap by omega)
        have hn2H := Lib.hid hn2
        clear hlen hn2 hn hn' n0 n1
        go_enter Tryd.func38, Tryd.ntmps38
        go_wp2_with fail
        go_quiet (fail)
        go_wp2_with fail
        obtain ⟨u, hu⟩ : ∃ u : Nat, u = t + q := ⟨_, rfl⟩
        have hu1 := hn2H.out
        have ew : wrap64 ((t : Int) + q) = (u : Int) := by unfold wrap64; omega
        rw [ew]
        have hb1 := ((hb.drewN nq).set 1 (.int .i64 (u : Int))).cast (cs' := #[.slice A B.length cap, .int .i64 (u : Int), .bool false]) (by simp)
        have F1 := ((Fr.refl (only g) w).drewN nq).set_only 1 none (.int .i64 (u : Int))
        generalize (w.drewN nq).setCell ⟨g, 1, none⟩ (.int .i64 (u : Int)) = w1 at hb1 F1 ⊢
        clear c0 c1 c2 f0 f1 f2 hb ew
        have c0 := hb1.cell 0
        have c1 := hb1.cell 1
        simp at c0 c1
        have hwu : IntKind.i64.wrap ((u : Int) - q) = (t : Int) := by rw [IntKind.wrap_i64]; omega
        have u0 : (0 : Int) ≤ t := by omega
        have u1 : (t : Int) ≤ u := by omega
        have u2 : (u : Int) ≤ cap := by omega
        have HU := Lib.hid hu
        have HU1 := Lib.hid hu1
        clear hu hu1 hd hd0 hwr hml
        have FIN := Lib.hid (fun (nq : Nat) (A' : Option Addr) (c' : Nat) => tt_fin hr h2 h5 h6 h7 h8 HU.out HU1.out w1 (w1.drewN nq) A' c' hb1 F1 ((Fr.refl _ _).drewN nq))
        clear h7 h8 hb1 F1 hr
        by_cases hct : cap = t
        · rw [hct] at c0
          go_quiet (fail)
          go_wp2
          all_goals (go_ret; exact FIN.out _ _ _ ⟨by rw [if_pos hct], by omega⟩)
        · go_quiet (fail)
          go_wp2
          all_goals (go_ret; exact FIN.out _ _ _ ⟨by rw [if_neg hct], by omega⟩)
  · have hbs := h4 rfl
    have hT := Lib.hid (show tk (B.drop t) n = [] ∧ lf (B.drop t) n = [] ∧ bd (B.drop t) true n = true from by rw [hbs]; exact ⟨tk_nil _, lf_nil _, bd_true _ _⟩)
    clear hbs hlen
    go_enter Tryd.func38, Tryd.ntmps38
    go_wp2_with fail
    go_quiet (fail)
    go_wp2
    go_ret
    refine ⟨none, 0, 0, rfl, by rw [hT.out.1]; rfl, ?_, ?_, ((Fr.refl _ _).drewN nq).set_only 2 none _ |>.set_only 1 none _⟩
    · rw [hT.out.1]; exact ⟨none, 0, rfl, Nat.le_refl _, Nat.zero_le _, fun _ => rfl, RdB.nil _ _ _ _⟩
    · rw [hT.out.2.1, hT.out.2.2]
      refine ⟨A, cap, B, B.length, (((hb.drewN nq).set 2 _).set 1 _).cast (by simp), Nat.le_refl _, by simp, fun _ => rfl, h5, h6, h7, ?_⟩
      exact h8.fr (((Fr.refl (only g) w).drewN nq).set_only 2 none _ |>.set_only 1 none _) (fun k h1 h2 h3 => hr (by have e : k = g := h3; omega))
theorem num_3 (xs : List Int) (h : xs.length ≤ 3) (hb : IsB xs) : num xs < 16777216 := by
  match xs, h with
  | [], _ => decide
  | [x], _ =>
    have hx := hb x (by simp)
    show (0 * 256 + x) % 4294967296 < 16777216
    omega
  | [x, y], _ =>
    have hx := hb x (by simp)
    have hy := hb y (by simp)
    show (((0 * 256 + x) % 4294967296) * 256 + y) % 4294967296 < 16777216
    omega
  | [x, y, z], _ =>
    have hx := hb x (by simp)
    have hy := hb y (by simp)
    have hz := hb z (by simp)
    show (((((0 * 256 + x) % 4294967296) * 256 + y) % 4294967296) * 256 + z) % 4294967296 < 16777216
    omega
def TNum (w : World) (g lo hi : Nat) (bs : List Int) (bad : Bool) (n : Int) (e : Ending) (w' : World) : Prop :=
  e = .returned (.int .u64 (num (tk bs n))) ∧ Tap w' g lo hi (lf bs n) (bd bs bad n) ∧ Fr (only g) w w'
set_option maxHeartbeats 1000000 in
theorem tnum_calls (g lo hi : Nat) (bs : List Int) (bad : Bool) (n : Nat) (w : World) (h : Tap w g lo hi bs bad) (hr : ¬ (lo ≤ g ∧ g < hi)) (hbs : IsB bs) (hn : n ≤ 4) :
    Calls Tryd.prog 25 #[.pointer (some ⟨g, 0, none⟩), .int .i64 n] w (TNum w g lo hi bs bad n) := by
  go_enter Tryd.func25, Tryd.ntmps25
  go_wp2_with fail
  refine (ttake_calls g lo hi bs bad n w h hr (by omega) (by omega)).mono ?_
  rintro e w1 ⟨A, kk, c, rfl, rfl, ⟨A', c', e1, -, -, -, h4⟩, T, f⟩
  injection e1 with e1 _ _
  subst e1
  have hb := isb_tk hbs n
  have hl := tk_len bs n
  have FIN := Lib.hid (show TNum w g lo hi bs bad n (.returned (.int .u64 (num (tk bs n)))) w1 from ⟨rfl, T, f⟩)
  clear T f h
  generalize tk bs n = ts at hb hl h4 FIN ⊢
  go_wp2
  go_loop [5, 12] (fun v i => ∃ k : Nat, k ≤ ts.length ∧ i = .int .i64 k ∧ v = .int .u64 (num (ts.take k))) (fun _ i => ts.length - (intOf i).toNat)
  case atStart => exact ⟨0, Nat.zero_le _, rfl, rfl⟩
  case round =>
    obtain ⟨k, hk, rfl, rfl⟩ := hrel
    by_cases hlt : k < ts.length
    · obtain ⟨ad, rfl, hc⟩ := h4.at_ k hlt
      have hx := hb ts[k] (List.getElem_mem hlt)
      have hv := num_range (ts.take k)
      have hv3 := num_3 (ts.take k) (by rw [List.length_take]; omega) (fun x hx => hb x (List.mem_of_mem_take hx))
      have HS := Lib.hid (num_take ts k hlt)
      generalize num (ts.take k) = v at hv hv3 HS ⊢
      generalize ts[k] = x at hx hc HS ⊢
      obtain ⟨hv0, hv1⟩ := hv
      obtain ⟨hx0, hx1⟩ := hx
      go_wp2
      go_round
      case rel => exact ⟨k + 1, by omega, by go_num, by rw [HS.out, Int.emod_eq_of_lt (by omega) (by omega), Int.mul_comm v 256]⟩
      case measure => simp [intOf]; omega
    · obtain rfl : k = ts.length := by omega
      go_wp2
      go_ret
      simpa using FIN.out
end Go.Proofs.YtdbndinnakkloaaDoor.Octet
