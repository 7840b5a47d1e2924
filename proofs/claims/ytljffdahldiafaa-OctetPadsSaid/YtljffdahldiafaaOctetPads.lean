/- The walk of flumelaw04.OctetPads: true for every input. No conditions but the row's own. -/
import Derived.Test.YtljffdahldiafaaOctetBad
namespace Go.Proofs.Ytljffdahldiafaa.OctetPads
open Go.RowKit Go.Proofs.Ytljffdahldiafaa.Mem Go.Proofs.Ytljffdahldiafaa.Octet Go.Proofs.Ytljffdahldiafaa.OctetBad
set_option linter.unusedVariables false
set_option linter.unusedSimpArgs false
attribute [local go_sem] max2_mx min2_mn max_two min_two

set_option maxHeartbeats 1000000 in
theorem padneg_calls (base g : Nat) (bs : List Int) (n : Int) (w : World) (h : WtrN w base g bs) (hn : n ≤ 0) :
    Calls Try.prog 11 #[.pointer (some ⟨g, 0, none⟩), .int .i64 n] w (fun e w' => e = .returned (.tuple #[]) ∧ w' = w) := by
  have hn' : ¬ 0 < n := by omega
  go_enter Try.func11, Try.ntmps11
  go_wp2
  first | go_end0 | ((try simp only [Exit.inBlock, Exit.then]); refine bodyPost_ret (results_none rfl _ _ _) rfl ?_)
  exact ⟨rfl, rfl⟩

theorem slb_str {w : World} {lo hi : Nat} {A : Option Addr} {n cap : Nat} {xs : List Int} (h : SlB w lo hi (.slice A n cap) xs) :
    (convert 22 9 (.slice A n cap)).run Try.prog w = .ok (.string (bstr xs)) w := by
  obtain ⟨A', cap', e, h1, h2, h3, h4⟩ := h
  injection e with e1 e2 e3
  subst e1; subst e2; subst e3
  exact string_rd w _ _ A cap xs h4 (fun e => ⟨h3 e, List.eq_nil_of_length_eq_zero (by have := h3 e; omega)⟩)
set_option maxHeartbeats 1000000 in
theorem pad0_calls (base g : Nat) (bs : List Int) (n : Nat) (w : World) (h : WtrN w base g bs) (hm : bs.length % n = 0) (hn : 0 < n) :
    Calls Try.prog 11 #[.pointer (some ⟨g, 0, none⟩), .int .i64 n] w (fun e w' => e = .returned (.tuple #[]) ∧ w' = w) := by
  obtain ⟨v, h, _⟩ := h
  have hb := h.1
  have c0 := hb.cell 0
  simp at c0
  have huw := Try.underlying26
  obtain ⟨A, cap, rfl, hc, _⟩ := OwnB.slice h.2
  have hn1 : (0 : Int) < n := by omega
  have hn2 : ¬ (n : Int) = 0 := by omega
  have hmod : (bs.length : Int) % n = 0 := by omega
  clear hm
  go_enter Try.func11, Try.ntmps11
  go_wp2
  first | go_end0 | ((try simp only [Exit.inBlock, Exit.then]); refine bodyPost_ret (results_none rfl _ _ _) rfl ?_)
  exact ⟨rfl, rfl⟩
/-- The string of a slice's first elements. -/
theorem slb_str' {w : World} {lo hi : Nat} {A : Option Addr} {n c : Nat} {xs : List Int} (h : RdB w lo hi A xs) (hc : xs.length ≤ c) (hm : c ≤ maxLen) (hn : A = none → c = 0) (hle : n ≤ xs.length) :
    (convert 22 9 (.slice A n c)).run Try.prog w = .ok (.string (bstr (xs.take n))) w := by
  have e : (xs.take n).length = n := by simp; omega
  have := string_rd w lo hi A c (xs.take n) (h.take n) (fun ea => by have h0 := hn ea; refine ⟨h0, List.eq_nil_of_length_eq_zero (by omega)⟩)
  rwa [e] at this

set_option maxHeartbeats 2000000 in
set_option maxRecDepth 100000 in
theorem walk (a : Option Addr) (cap : Nat) (l : List Int) (n : Int) (w : World) (hr : ReadsI w .u8 a l) (hc : l.length ≤ cap) (hm : cap ≤ maxLen) (hy : l.length * 1 ≤ 140737488351232)
    (hw : ∀ x ∈ l, (Lit.int .u8 x).wf = true) (hnil : a = none → cap = 0) (hwn : (Lit.int .i64 n).wf = true) :
    Calls Try.prog 3 #[.slice a l.length cap, .int .i64 n] w fun e w' => e = .returned (.bool true) ∧ Below w.heap.size w w' := by
  obtain ⟨K, hK⟩ : ∃ K : Nat, mn l.length 1000 = K := ⟨min l.length 1000, by unfold mn; split <;> omega⟩
  have hK1 : K ≤ l.length ∧ K ≤ 1000 := by unfold mn at hK; split at hK <;> omega
  have X := slb_cut hr hc hm hnil K hK1.1
  have hKc : K ≤ cap := by omega
  have hlen : (l.take K).length = K := by rw [List.length_take]; omega
  have HU := Lib.hid (um_range n 300 (by omega) (by omega))
  clear hw hr hnil hy hwn
  go_enter Try.func3, Try.ntmps3
  go_wp2_with fail
  refine (first_calls w).mono ?_
  rintro e w0 ⟨rfl, B0⟩
  replace X := SlB.bl X B0 (Nat.le_refl _)
  have W0 := WtrN.new w0
  replace X := SlB.fr X (S := nothing) ((Fr.refl _ w0).alloc (.cells #[.slice none 0 0] 26)) (fun _ _ _ h => h)
  have B1 := B0.alloc B0.size (.cells #[.slice none 0 0] 26)
  have hs0 := B0.size
  clear B0
  go_wp2_with fail
  refine (putn_calls w0.heap.size w0.heap.size _ _ _ [] _ _ W0 X (by simp; omega)).mono ?_
  rintro e w1 ⟨rfl, W, B⟩
  replace X := SlB.bl X B hs0
  replace B1 := Bl.trans B1 (Bl.low B hs0)
  clear B W0
  have W0 := W
  clear W
  go_wp2_with fail
  refine (lenn_calls _ _ _ w1 W0).mono ?_
  rintro e w' ⟨he, rfl⟩
  rw [List.nil_append, hlen] at he
  subst he
  have hu := HU.out
  unfold um at hu
  go_wp2_with fail
  generalize wrap64 ((IntKind.u64.wrap n).tmod 300) = u at hu ⊢
  obtain ⟨hu0, hu1⟩ := hu
  obtain ⟨q, hq⟩ : ∃ q : Nat, 1 + u = (q : Int) := ⟨(1 + u).toNat, by omega⟩
  rw [hq]
  have hq1 : 1 ≤ q ∧ q ≤ 300 := by omega
  obtain ⟨hq1, hq2⟩ := hq1
  clear hq hu0 hu1 HU
  generalize hxs : l.take K = xs at W0 hlen X
  refine (padn_calls w0.heap.size w0.heap.size _ q _ W0 (by simp; omega) (by omega)).mono ?_
  rintro e w2 ⟨rfl, W, B⟩
  replace X := SlB.bl X B hs0
  replace B1 := Bl.trans B1 (Bl.low B hs0)
  clear B W0
  rw [List.nil_append, hlen] at W
  obtain ⟨P, hP⟩ : ∃ P, P = (q - K % q) % q := ⟨_, rfl⟩
  rw [← hP] at W
  have hP1 : P < q := by rw [hP]; exact Nat.mod_lt _ (by omega)
  have hP2 : (K + P) % q = 0 := by
    have h0 := Nat.mod_lt K (show 0 < q by omega)
    by_cases hz : K % q = 0
    · rw [hz] at hP; simp at hP; subst hP; simpa using hz
    · rw [Nat.mod_eq_of_lt (by omega)] at hP
      have := Nat.div_add_mod K q
      rw [show K + P = q * (K / q + 1) by rw [Nat.mul_add]; omega]
      exact Nat.mul_mod_right _ _
  clear hP
  go_wp2_with fail
  refine (lenn_calls _ _ _ w2 W).mono ?_
  rintro e w' ⟨he, rfl⟩
  have hl2 : (xs ++ List.replicate P 0).length = K + P := by simp [hlen]
  rw [hl2] at he
  subst he
  have hgw : w.heap.size ≤ w'.heap.size := B1.size
  go_wp2_with fail
  refine (outn_calls _ _ _ w' W (by simp; omega)).mono ?_
  rintro e w3 ⟨A, N, c, rfl, hN, -, o, W3, B3⟩
  replace X := SlB.bl X B3 hgw
  replace B3 := Bl.trans B1 (Bl.low B3 hgw)
  obtain rfl : N = K + P := by rw [hN]; simp [hlen]
  obtain ⟨A', c', e1, h1, h2, h3, h4⟩ := SlB.of_own o
  injection e1 with e1 e2 e3
  subst e1; subst e3
  have h5 := h4.drop (n := K) (by simp; omega) h1
  rw [List.drop_left' hlen] at h5
  have hcc : K + P ≤ c := by simpa [hlen] using h1
  have SO : ∀ i, (convert 22 9 (.slice A K c)).run Try.prog (w3.drewN i) = .ok (.string (bstr xs)) (w3.drewN i) := fun i => by
    have := slb_str' (w := w3.drewN i) (n := K) (A := A) (c := c) (xs := xs ++ List.replicate P 0) (h4.fr (S := nothing) ((Fr.refl _ _).drewN i) (fun _ _ _ h => h)) (by omega) (by omega) h3 (by omega)
    rwa [List.take_left' hlen] at this
  have SX : ∀ i, (convert 22 9 (.slice a K cap)).run Try.prog (w3.drewN i) = .ok (.string (bstr xs)) (w3.drewN i) := fun i =>
    slb_str (w := w3.drewN i) (X.fr (S := nothing) ((Fr.refl _ _).drewN i) (fun _ _ _ h => h))
  clear B1 W hN h3 h1 o e2
  by_cases hcK : c = K
  · have hcK' := hcK.symm
    clear hcK
    subst hcK'
    rw [if_pos rfl] at h5
    go_wp2_with fail
    go_loopw [41] (fun i wr => ∃ k : Nat, k ≤ P ∧ i = .int .i64 k ∧ wr = w3) (fun i _ => P - (intOf i).toNat)
    case atStart => exact ⟨0, Nat.zero_le _, rfl, rfl⟩
    case round =>
      obtain ⟨k, hk, rfl, rfl⟩ := hrel
      by_cases hlt : k < P
      · obtain ⟨ad, ea, hcell⟩ := h5.at_ k (by simpa using hlt)
        rw [List.getElem_replicate] at hcell
        first
          | (exfalso; omega)
          | (obtain ⟨a0, rfl, rfl⟩ : ∃ a0, A = some a0 ∧ a0.add K = ad := by
              rcases A with _ | a0
              · simp at ea
              · simp at ea; exact ⟨a0, rfl, ea⟩
             go_wp2
             go_roundw
             case rel => exact ⟨k + 1, by omega, by go_num, by first | rfl | trivial⟩
             case measure => simp [intOf]; omega)
      · obtain rfl : k = P := by omega
        go_wp2_with fail
        refine (pad0_calls w0.heap.size w0.heap.size _ q wr W3 (by rw [hl2]; exact hP2) (by omega)).mono ?_
        rintro e w' ⟨rfl, rfl⟩
        go_wp2_with fail
        refine (padneg_calls w0.heap.size w0.heap.size _ _ w' W3 (by omega)).mono ?_
        rintro e w'' ⟨rfl, rfl⟩
        have W5 := fun i => W3.fr (S := nothing) ((Fr.refl _ _).drewN i) (fun _ _ h => h)
        have hq3 : ¬ q = 0 := by omega
        have hq4 : ¬ (q : Int) = 0 := by omega
        have hmod' : ((K : Int) + k) % q = 0 := by have := congrArg (Nat.cast (R := Int)) hP2; simpa using this
        have hmod : ((K : Int) + k).tmod q = 0 := by rw [Int.tmod_eq_emod_of_nonneg (by omega)]; exact hmod'
        have hsub : (K : Int) + k - K = k := by omega
        have hkq : (k : Int) < q := by omega
        have hwk : IntKind.i64.wrap (k : Int) = k := by rw [IntKind.wrap_i64]; omega
        have hge : (K : Int) ≤ K + k := by omega
        have hge0 : (0 : Int) ≤ k := by omega
        have hwk2 : IntKind.i64.wrap ((K : Int) + k - K) = k := by rw [hsub]; exact hwk
        go_wp2_with fail
        have L5 := Lib.hid (fun i => by
          have h := lenn_calls _ _ _ _ (W5 i)
          rw [hl2, Int.natCast_add] at h
          exact h : ∀ i, Calls Try.prog 10 #[.pointer (some ⟨w0.heap.size, 0, none⟩)] (w''.drewN i) fun e w' => e = .returned (.int .i64 ((K : Int) + k)) ∧ w' = w''.drewN i)
        go_quiet (first | (go_at_call 10; exact Calls.quiet_of_same (L5.out _)))
        all_goals first
          | (go_wp2; go_ret; first | exact ⟨rfl, B3.drew⟩ | exact ⟨rfl, ⟨B3.os, B3.tape, B3.output, B3.size, B3.block⟩⟩)
          | (trace_state; sorry)
  · rw [if_neg hcK] at h5
    go_wp2_with fail
    go_loopw [41] (fun i wr => ∃ k : Nat, k ≤ P ∧ i = .int .i64 k ∧ wr = w3) (fun i _ => P - (intOf i).toNat)
    case atStart => exact ⟨0, Nat.zero_le _, rfl, rfl⟩
    case round =>
      obtain ⟨k, hk, rfl, rfl⟩ := hrel
      by_cases hlt : k < P
      · obtain ⟨ad, ea, hcell⟩ := h5.at_ k (by simpa using hlt)
        rw [List.getElem_replicate] at hcell
        first
          | (exfalso; omega)
          | (obtain ⟨a0, rfl, rfl⟩ : ∃ a0, A = some a0 ∧ a0.add K = ad := by
              rcases A with _ | a0
              · simp at ea
              · simp at ea; exact ⟨a0, rfl, ea⟩
             go_wp2
             go_roundw
             case rel => exact ⟨k + 1, by omega, by go_num, by first | rfl | trivial⟩
             case measure => simp [intOf]; omega)
      · obtain rfl : k = P := by omega
        go_wp2_with fail
        refine (pad0_calls w0.heap.size w0.heap.size _ q wr W3 (by rw [hl2]; exact hP2) (by omega)).mono ?_
        rintro e w' ⟨rfl, rfl⟩
        go_wp2_with fail
        refine (padneg_calls w0.heap.size w0.heap.size _ _ w' W3 (by omega)).mono ?_
        rintro e w'' ⟨rfl, rfl⟩
        have W5 := fun i => W3.fr (S := nothing) ((Fr.refl _ _).drewN i) (fun _ _ h => h)
        have hq3 : ¬ q = 0 := by omega
        have hq4 : ¬ (q : Int) = 0 := by omega
        have hmod' : ((K : Int) + k) % q = 0 := by have := congrArg (Nat.cast (R := Int)) hP2; simpa using this
        have hmod : ((K : Int) + k).tmod q = 0 := by rw [Int.tmod_eq_emod_of_nonneg (by omega)]; exact hmod'
        have hsub : (K : Int) + k - K = k := by omega
        have hkq : (k : Int) < q := by omega
        have hwk : IntKind.i64.wrap (k : Int) = k := by rw [IntKind.wrap_i64]; omega
        have hge : (K : Int) ≤ K + k := by omega
        have hge0 : (0 : Int) ≤ k := by omega
        have hwk2 : IntKind.i64.wrap ((K : Int) + k - K) = k := by rw [hsub]; exact hwk
        go_wp2_with fail
        have L5 := Lib.hid (fun i => by
          have h := lenn_calls _ _ _ _ (W5 i)
          rw [hl2, Int.natCast_add] at h
          exact h : ∀ i, Calls Try.prog 10 #[.pointer (some ⟨w0.heap.size, 0, none⟩)] (w''.drewN i) fun e w' => e = .returned (.int .i64 ((K : Int) + k)) ∧ w' = w''.drewN i)
        go_quiet (first | (go_at_call 10; exact Calls.quiet_of_same (L5.out _)))
        all_goals first
          | (go_wp2; go_ret; first | exact ⟨rfl, B3.drew⟩ | exact ⟨rfl, ⟨B3.os, B3.tape, B3.output, B3.size, B3.block⟩⟩)
          | (trace_state; sorry)
end Go.Proofs.Ytljffdahldiafaa.OctetPads
