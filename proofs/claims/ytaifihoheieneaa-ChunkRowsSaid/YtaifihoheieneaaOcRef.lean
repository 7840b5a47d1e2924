/- Contracts of flumeref04's Pad and Text. Conditions: each names its blocks and the bounds. -/
import Derived.Test.YtaifihoheieneaaOcN
namespace Go.Proofs.Ytaifihoheieneaa.Octet
open Go.RowKit Go.Proofs.Ytaifihoheieneaa.Mem
set_option linter.unusedVariables false
set_option linter.unusedSimpArgs false

/-- How many noughts. -/
def padTo (k : Nat) (n : Int) : Nat := if n ≤ 0 then 0 else ((n.toNat - k % n.toNat) % n.toNat)
set_option maxHeartbeats 1000000 in
set_option maxRecDepth 100000 in
theorem rpad_calls (v : Value) (xs : List Int) (n : Int) (w : World) (h : OwnB w 0 5 v xs) (hl : xs.length + 1000 ≤ 140737488355328) (hn1 : n ≤ 1000) :
    Calls Try.prog 33 #[v, .int .i64 n] w fun e w' => ∃ A k cap, e = .returned (.slice A k cap) ∧ k = (xs ++ List.replicate (padTo xs.length n) 0).length ∧ AppP w v (xs ++ List.replicate (padTo xs.length n) 0) (.slice A k cap) w' := by
  obtain ⟨i0, hi0, hz0, hz1, hz2⟩ := info_parts info_b
  rcases (show n ≤ 0 ∨ 0 < n by omega) with hn | hn
  · have hn' : ¬ 0 < n := by omega
    have e0 : padTo xs.length n = 0 := if_pos hn
    obtain ⟨A, cap, e1, _⟩ := OwnB.slice h
    rw [e0]
    subst e1
    go_enter Try.func33, Try.ntmps33
    go_wp2_with fail
    go_loopw [0] (fun x wr => x = .slice A xs.length cap ∧ wr = w) (fun _ _ => 0)
    case atStart => exact ⟨rfl, rfl⟩
    case round =>
      obtain ⟨rfl, rfl⟩ := hrel
      go_wp2
      go_ret
      exact ⟨_, _, _, rfl, by simp, by simpa using AppP.refl h⟩
  · obtain ⟨q, rfl⟩ : ∃ q : Nat, n = q := ⟨n.toNat, by omega⟩
    have hq : 0 < q ∧ q ≤ 1000 := by omega
    obtain ⟨hq1, hq2⟩ := hq
    obtain ⟨P, hP⟩ : ∃ P, P = padTo xs.length q := ⟨_, rfl⟩
    rw [← hP]
    have hP0 : P = (q - xs.length % q) % q := by rw [hP]; unfold padTo; rw [if_neg (by omega)]; simp
    have hPq : P < q := by rw [hP0]; exact Nat.mod_lt _ hq1
    have key : ∀ j, j ≤ P → ((xs.length + j) % q = 0 ↔ j = P) := by
      clear h hn hn1
      intro j hj
      have h0 := Nat.mod_lt xs.length hq1
      have hd := Nat.div_add_mod xs.length q
      by_cases hz : xs.length % q = 0
      · have : P = 0 := by rw [hP0, hz]; simp
        subst this
        obtain rfl : j = 0 := by omega
        simpa using hz
      · rw [Nat.mod_eq_of_lt (by omega)] at hP0
        constructor
        · intro h1
          have h2 : (xs.length + j) % q = (xs.length % q + j) % q := by simp
          rw [h2] at h1
          rcases Nat.lt_or_ge (xs.length % q + j) q with h3 | h3
          · rw [Nat.mod_eq_of_lt h3] at h1; omega
          · omega
        · intro h1
          subst h1
          rw [show xs.length + j = q * (xs.length / q + 1) by rw [Nat.mul_add]; omega]
          exact Nat.mul_mod_right _ _
    clear hP hP0
    have hn2 : (0 : Int) < q := by omega
    have hn3 : ¬ (q : Int) = 0 := by omega
    have KEY := Lib.hid key
    clear key
    go_enter Try.func33, Try.ntmps33
    go_wp2_with fail
    go_loopw [0] (fun x wr => ∃ j, j ≤ P ∧ AppP w v (xs ++ List.replicate j 0) x wr) (fun x _ => xs.length + P - lenV x)
    case atStart => exact ⟨0, Nat.zero_le _, by simpa using AppP.refl h⟩
    case round =>
      obtain ⟨j, hj, hx⟩ := hrel
      obtain ⟨A, cap, rfl⟩ := hx.shape
      have hlen : (xs ++ List.replicate j 0).length = xs.length + j := by simp
      have HX := Lib.hid hx
      rw [hlen] at HX ⊢
      by_cases hjP : j = P
      · have h0 : (((xs.length + j : Nat) : Int) % q != 0) = false := by
          have := (KEY.out j hj).2 hjP
          simp only [bne_eq_false_iff_eq]
          omega
        clear hx
        generalize hL : xs.length + j = L at *
        go_wp2
        go_ret
        refine ⟨_, _, _, rfl, by simp; omega, ?_⟩
        subst hjP
        exact HX.out
      · have h0 : (((xs.length + j : Nat) : Int) % q != 0) = true := by
          simp only [bne_iff_ne]
          intro h1
          exact hjP ((KEY.out j hj).1 (by omega))
        have hA := hx.alloc (.cells #[.int .u8 0] 5 (0, 0))
        rw [hlen] at hA
        clear hx hlen
        generalize hL : xs.length + j = L at *
        have hlt : L + 1 ≤ 140737488355328 := by omega
        go_wp2_with (at_builtin; refine wpList_append_b _ rfl (.tmp 14) (.tmp 15) _ rfl 0 5 i0 Try.underlying29 hi0 hz0 hz1 hz2 _ (xs ++ List.replicate j 0) rfl hA.1 0 (wr.heap.size + 1) _ _ 1 [0] rfl rfl (lit_rd wr #[.int .u8 0] (0, 0) [0] (by intro i hi; match i, hi with | 0, _ => rfl)) (by simp; omega) (Nat.zero_le _) ?_; intro v' w' hown hg hat; have hB := hA.trans (AppP.of_grown hown hg hat); clear hown hg hat; rw [List.append_assoc, ← List.replicate_succ'] at hB; obtain ⟨A', cap', ev⟩ := hB.shape; subst ev; simp only [List.length_append, List.length_replicate] at hB)
        go_roundw
        case rel => exact ⟨j + 1, by omega, hB⟩
        case measure => simp [lenV]; omega
/-- The bytes of a number, the greatest first. -/
def txt (v : Int) (n : Nat) : List Int := (List.range n).map fun j => v / 256 ^ (n - 1 - j) % 256
theorem txt_len (v : Int) (n : Nat) : (txt v n).length = n := by simp [txt]
theorem txt_snoc (v : Int) (n r : Nat) (hr : r < n) : (txt v n).take (n - (r + 1)) ++ [v / 256 ^ r % 256] = (txt v n).take (n - r) := by
  rw [show n - r = n - (r + 1) + 1 by omega, List.take_add_one]
  congr 1
  simp [txt, List.getElem?_range, show n - (r + 1) < n by omega, show n - 1 - (n - (r + 1)) = r by omega]
set_option maxHeartbeats 1000000 in
set_option maxRecDepth 100000 in
theorem rtext_calls (v : Int) (n : Nat) (w : World) (h0 : 0 ≤ v) (h1 : v < 4294967296) (hn : n ≤ 4) :
    Calls Try.prog 51 #[.int .u64 v, .int .i64 n] w fun e w' => ∃ A k cap, e = .returned (.slice A k cap) ∧ k = n ∧ OwnB w' w.heap.size 5 (.slice A k cap) (txt v n) ∧ Below w.heap.size w w' := by
  obtain ⟨i0, hi0, hz0, hz1, hz2⟩ := info_parts info_b
  go_enter Try.func51, Try.ntmps51
  go_wp2_with fail
  go_loopw [5, 6] (fun x i wr => ∃ r : Nat, r ≤ n ∧ i = .int .i64 ((r : Int) - 1) ∧ AppP w (.slice none 0 0) ((txt v n).take (n - r)) x wr) (fun _ i _ => (intOf i + 1).toNat)
  case atStart => exact ⟨n, Nat.le_refl _, by go_num, by simpa using AppP.refl (OwnB.nil _ _ _)⟩
  case round =>
    obtain ⟨r, hr, rfl, hx⟩ := hrel
    obtain ⟨A, cap, rfl⟩ := hx.shape
    have hlen : ((txt v n).take (n - r)).length = n - r := by simp [txt_len]
    have HX := Lib.hid hx
    rw [hlen] at HX ⊢
    rcases (show r = 0 ∨ r = 0 + 1 ∨ r = 1 + 1 ∨ r = 2 + 1 ∨ r = 3 + 1 by omega) with rfl | rfl | rfl | rfl | rfl
    · rw [Nat.sub_zero, List.take_of_length_le (by rw [txt_len]; exact Nat.le_refl _)] at HX
      rw [show (((0 : Nat) : Int) - 1) = -1 from rfl]
      clear hx hlen
      go_wp2
      go_ret
      obtain ⟨o, B⟩ := HX.out.new
      exact ⟨_, _, _, rfl, rfl, o, B⟩
    · have hrn : 0 < n := by omega
      have e1 := txt_snoc v n 0 hrn
      rw [show v / 256 ^ 0 % 256 = v % 256 from by (try simp) <;> omega] at e1
      have hA := hx.alloc (.cells #[.int .u8 (v % 256)] 5 (0, 0))
      rw [hlen] at hA
      clear hx
      rw [show (((0 + 1 : Nat) : Int) - 1) = 0 from rfl]
      have hN : n - (0 + 1) + 1 = n - 0 := by omega
      generalize hL : n - (0 + 1) = L at hA HX hlen e1 hN ⊢
      have hL4 : L ≤ 4 := by omega
      generalize hT : (txt v n).take L = T at hA HX hlen e1
      have hlT : T.length + 1 ≤ 140737488355328 := by omega
      subst hlen
      go_wp2_with (at_builtin; refine wpList_append_b _ rfl (.tmp 13) (.tmp 20) _ rfl 0 5 i0 Try.underlying29 hi0 hz0 hz1 hz2 _ T rfl hA.1 0 (wr.heap.size + 1) _ _ 1 [v % 256] rfl rfl (lit_rd wr #[.int .u8 (v % 256)] (0, 0) [v % 256] (by intro i hi; match i, hi with | 0, _ => rfl)) hlT (Nat.zero_le _) ?_; intro v' w' hown hg hat; have hB := hA.trans (AppP.of_grown hown hg hat); clear hown hg hat; rw [e1] at hB; obtain ⟨A', cap', ev⟩ := hB.shape; subst ev; simp only [List.length_take, Nat.sub_zero] at hB)
      go_roundw
      case rel => exact ⟨0, by omega, rfl, hB⟩
      case measure => simp [intOf]
    · have hrn : 1 < n := by omega
      have e1 := txt_snoc v n 1 hrn
      rw [show v / 256 ^ 1 % 256 = v / 256 % 256 from by (try simp) <;> omega] at e1
      have hA := hx.alloc (.cells #[.int .u8 (v / 256 % 256)] 5 (0, 0))
      rw [hlen] at hA
      clear hx
      rw [show (((1 + 1 : Nat) : Int) - 1) = 1 from rfl]
      have hN : n - (1 + 1) + 1 = n - 1 := by omega
      generalize hL : n - (1 + 1) = L at hA HX hlen e1 hN ⊢
      have hL4 : L ≤ 4 := by omega
      generalize hT : (txt v n).take L = T at hA HX hlen e1
      have hlT : T.length + 1 ≤ 140737488355328 := by omega
      subst hlen
      go_wp2_with (at_builtin; refine wpList_append_b _ rfl (.tmp 13) (.tmp 20) _ rfl 0 5 i0 Try.underlying29 hi0 hz0 hz1 hz2 _ T rfl hA.1 0 (wr.heap.size + 1) _ _ 1 [v / 256 % 256] rfl rfl (lit_rd wr #[.int .u8 (v / 256 % 256)] (0, 0) [v / 256 % 256] (by intro i hi; match i, hi with | 0, _ => rfl)) hlT (Nat.zero_le _) ?_; intro v' w' hown hg hat; have hB := hA.trans (AppP.of_grown hown hg hat); clear hown hg hat; rw [e1] at hB; obtain ⟨A', cap', ev⟩ := hB.shape; subst ev; simp only [List.length_take, Nat.sub_zero] at hB)
      go_roundw
      case rel => exact ⟨1, by omega, rfl, hB⟩
      case measure => simp [intOf]
    · have hrn : 2 < n := by omega
      have e1 := txt_snoc v n 2 hrn
      rw [show v / 256 ^ 2 % 256 = v / 65536 % 256 from by (try simp) <;> omega] at e1
      have hA := hx.alloc (.cells #[.int .u8 (v / 65536 % 256)] 5 (0, 0))
      rw [hlen] at hA
      clear hx
      rw [show (((2 + 1 : Nat) : Int) - 1) = 2 from rfl]
      have hN : n - (2 + 1) + 1 = n - 2 := by omega
      generalize hL : n - (2 + 1) = L at hA HX hlen e1 hN ⊢
      have hL4 : L ≤ 4 := by omega
      generalize hT : (txt v n).take L = T at hA HX hlen e1
      have hlT : T.length + 1 ≤ 140737488355328 := by omega
      subst hlen
      go_wp2_with (at_builtin; refine wpList_append_b _ rfl (.tmp 13) (.tmp 20) _ rfl 0 5 i0 Try.underlying29 hi0 hz0 hz1 hz2 _ T rfl hA.1 0 (wr.heap.size + 1) _ _ 1 [v / 65536 % 256] rfl rfl (lit_rd wr #[.int .u8 (v / 65536 % 256)] (0, 0) [v / 65536 % 256] (by intro i hi; match i, hi with | 0, _ => rfl)) hlT (Nat.zero_le _) ?_; intro v' w' hown hg hat; have hB := hA.trans (AppP.of_grown hown hg hat); clear hown hg hat; rw [e1] at hB; obtain ⟨A', cap', ev⟩ := hB.shape; subst ev; simp only [List.length_take, Nat.sub_zero] at hB)
      go_roundw
      case rel => exact ⟨2, by omega, rfl, hB⟩
      case measure => simp [intOf]
    · have hrn : 3 < n := by omega
      have e1 := txt_snoc v n 3 hrn
      rw [show v / 256 ^ 3 % 256 = v / 16777216 from by (try simp) <;> omega] at e1
      have hA := hx.alloc (.cells #[.int .u8 (v / 16777216)] 5 (0, 0))
      rw [hlen] at hA
      clear hx
      rw [show (((3 + 1 : Nat) : Int) - 1) = 3 from rfl]
      have hN : n - (3 + 1) + 1 = n - 3 := by omega
      generalize hL : n - (3 + 1) = L at hA HX hlen e1 hN ⊢
      have hL4 : L ≤ 4 := by omega
      generalize hT : (txt v n).take L = T at hA HX hlen e1
      have hlT : T.length + 1 ≤ 140737488355328 := by omega
      subst hlen
      go_wp2_with (at_builtin; refine wpList_append_b _ rfl (.tmp 13) (.tmp 20) _ rfl 0 5 i0 Try.underlying29 hi0 hz0 hz1 hz2 _ T rfl hA.1 0 (wr.heap.size + 1) _ _ 1 [v / 16777216] rfl rfl (lit_rd wr #[.int .u8 (v / 16777216)] (0, 0) [v / 16777216] (by intro i hi; match i, hi with | 0, _ => rfl)) hlT (Nat.zero_le _) ?_; intro v' w' hown hg hat; have hB := hA.trans (AppP.of_grown hown hg hat); clear hown hg hat; rw [e1] at hB; obtain ⟨A', cap', ev⟩ := hB.shape; subst ev; simp only [List.length_take, Nat.sub_zero] at hB)
      go_roundw
      case rel => exact ⟨3, by omega, rfl, hB⟩
      case measure => simp [intOf]
end Go.Proofs.Ytaifihoheieneaa.Octet

