/- The walk of flumelaw03.CrcSeals: true for all bytes, every place and every cut. No conditions but the row's own. -/
import Derived.Test.YtdapcjeofgimgaaCrcRef
import Derived.Test.YtdapcjeofgimgaaBstr
namespace Go.Proofs.Ytdapcjeofgimgaa.CrcSeals
open Go.RowKit Go.Proofs.Ytdapcjeofgimgaa.Mem Go.Proofs.Ytdapcjeofgimgaa.Octet Go.Proofs.Ytdapcjeofgimgaa.Crc
set_option linter.unusedVariables false
set_option linter.unusedSimpArgs false
attribute [local go_sem] max2_mx min2_mn max_two min_two

set_option maxHeartbeats 2000000 in
set_option maxRecDepth 100000 in
theorem walk (a : Option Addr) (cap : Nat) (l : List Int) (p : Int) (cut : Int) (w : World) (hr : ReadsI w .u8 a l) (hc : l.length ≤ cap) (hm : cap ≤ maxLen) (hy : l.length * 1 ≤ 140737488351232)
    (hw : ∀ x ∈ l, (Lit.int .u8 x).wf = true) (hnil : a = none → cap = 0) (hwp : (Lit.int .i64 p).wf = true) (hwc : (Lit.int .i64 cut).wf = true) :
    Calls Try.prog 3 #[.slice a l.length cap, .int .i64 p, .int .i64 cut] w fun e w' => e = .returned (.bool true) ∧ Below w.heap.size w w' := by
  obtain ⟨K, hK⟩ : ∃ K : Nat, mn l.length 3000 = K := ⟨min l.length 3000, by unfold mn; split <;> omega⟩
  have hK1 : K ≤ l.length ∧ K ≤ 3000 := by unfold mn at hK; split at hK <;> omega
  have X0 := slb_cut hr hc hm hnil K hK1.1
  have hKc : K ≤ cap := by omega
  have ib : IsB (l.take K) := fun x hx => range_u8 x (hw x (List.mem_of_mem_take hx))
  have hlen : (l.take K).length = K := by rw [List.length_take]; omega
  clear hr hw hnil hy hwp hwc
  generalize hxs : l.take K = xs at X0 ib hlen
  obtain rfl : K = xs.length := hlen.symm
  have hx3 : xs.length ≤ 3000 := hK1.2
  clear hxs hK1 hlen
  have hbig : ([] : List Int).length + xs.length ≤ 140737488355328 := by simp; omega
  have hw1 : wrap64 ((xs.length : Int) + 1) = (xs.length : Int) + 1 := by unfold wrap64; omega
  obtain ⟨i0, hi0, hz0, hz1, hz2⟩ := info_parts info_b
  go_enter Try.func3, Try.ntmps3
  go_wp2_with fail
  refine (first_calls _).mono ?_
  rintro e w0 ⟨rfl, B0⟩
  replace X0 := SlB.bl X0 B0 (Nat.le_refl _)
  have hwo : w.heap.size ≤ w0.heap.size := B0.size
  have own0 : (w0.alloc (.cells #[] 5)).ownsRow w0.heap.size 5 1 (.slice (some ⟨w0.heap.size, 0, none⟩) 0 0) ([] : List Int).length (byts []) :=
    ⟨rfl, .inr ⟨w0.heap.size, 0, #[], rfl, Nat.le_refl _, heap_alloc_new w0 _, Nat.le_refl _, Nat.zero_le _, rfl, rfl⟩⟩
  obtain ⟨A3, c3, e3, h31, h32, h33, rd2⟩ := SlB.fr X0 (S := nothing) ((Fr.refl _ w0).alloc (.cells #[] 5)) (fun _ _ _ h => h)
  injection e3 with e3 el4 e4
  subst e3; subst e4
  clear h31 h32 h33 el4
  go_wp2_with (at_builtin; refine wpList_append_b _ rfl (.tmp 14) (.tmp 19) _ rfl w0.heap.size 5 i0 Try.underlying22 hi0 hz0 hz1 hz2 _ [] rfl own0 _ _ _ _ _ xs rfl rfl rd2 hbig (by simp) ?_; intro v' w' hown hg hat; clear own0 rd2; have oB : OwnB w' w0.heap.size 5 v' xs := hown; have BB : Below w0.heap.size w0 w' := ((Below.refl _ _).alloc (Nat.le_refl _) _).grown hg (by simp) (fun k hk => by have hk' : some w0.heap.size = some k := hk; injection hk' with hk'; omega); clear hown hg hat; obtain ⟨Ab, cb, rfl, hxc, -⟩ := OwnB.slice oB)
  obtain ⟨k, hkv, hk⟩ : ∃ k : Nat, wrap64 ((IntKind.u64.wrap cut).tmod ((xs.length : Int) + 1)) = k ∧ k ≤ xs.length := by
    have := um_range cut ((xs.length : Int) + 1) (by omega) (by omega)
    unfold um at this
    exact ⟨(wrap64 ((IntKind.u64.wrap cut).tmod ((xs.length : Int) + 1))).toNat, by omega, by omega⟩
  rw [hkv]
  clear hkv hw1
  have B1 := Bl.trans B0 (Bl.low BB hwo)
  have XA := SlB.bl X0 BB hwo
  have hsz := BB.size
  clear X0 B0 BB
  have SB := SlB.of_own oB
  obtain ⟨hcb, rB⟩ : cb ≤ maxLen ∧ RdB w' w0.heap.size w'.heap.size Ab xs := by
    obtain ⟨A', cc, e, h1, h2, h3, h4⟩ := SB
    injection e with e1 _ e2
    subst e1; subst e2
    exact ⟨h2, h4⟩
  unfold maxLen at hcb
  have hdr := rB.drop (n := k) hk hxc
  obtain ⟨E, hE⟩ : ∃ E, (if cb = k then Ab else Ab.map (fun x => x.add k)) = E := ⟨_, rfl⟩
  rw [hE] at hdr
  have HBL := Lib.hid ((Below.refl w'.heap.size w').alloc (Nat.le_refl _) (.cells #[.slice Ab k cb, .slice E (xs.length - k) (cb - k)] 22))
  have HZ := Lib.hid (show crcS [xs.take k, xs.drop k].flatten = crcS xs by simp)
  have HP := Lib.hid (show Parts (w'.drew.alloc (.cells #[.slice Ab k cb, .slice E (xs.length - k) (cb - k)] 22)) w0.heap.size w'.heap.size (some ⟨w'.heap.size, 0, none⟩) [xs.take k, xs.drop k] by
    have P := parts_row w'.drew #[.slice Ab k cb, .slice E (xs.length - k) (cb - k)] w0.heap.size w'.heap.size [xs.take k, xs.drop k] (by
      intro i hi2
      match i, hi2 with
      | 0, _ => exact ⟨Ab, cb, by simp [Nat.min_eq_left hk], (rB.take k).fr (S := nothing) (Fr.refl _ w').drew (fun _ _ _ h => h)⟩
      | 1, _ => exact ⟨_, _, by simp; rfl, hdr.fr (S := nothing) (Fr.refl _ w').drew (fun _ _ _ h => h)⟩)
    exact P)
  have HC := Lib.hid (sum_calls w0.heap.size w'.heap.size _ 2 [xs.take k, xs.drop k] _ HP.out (by
    intro ys hy
    simp only [List.mem_cons, List.not_mem_nil, or_false] at hy
    rcases hy with rfl | rfl
    · exact ⟨fun x hx => ib x (List.mem_of_mem_take hx), by rw [List.length_take]; omega⟩
    · exact ⟨fun x hx => ib x (List.mem_of_mem_drop hx), by rw [List.length_drop]; omega⟩) (by simp))
  have HR := Lib.hid (fun w1 (h : RdB w1 w0.heap.size w'.heap.size Ab xs) => rsum_calls w0.heap.size w'.heap.size Ab cb xs w1 h ib (by omega))
  have rB2 := rB.fr (S := nothing) (w' := w'.drew.alloc (.cells #[.slice Ab k cb, .slice E (xs.length - k) (cb - k)] 22)) ((Fr.refl _ w').drew.alloc _) (fun _ _ _ h => h)
  have b0 : (k : Int) ≤ cb := by omega
  have b1 : (k : Int) ≤ xs.length := by omega
  have b3 : (xs.length : Int) ≤ cb := by omega
  clear hdr
  go_region_held_law (fun wq => True) (trivial) (first
    | (go_at_call 8; refine HC.out.mono ?_; rintro e w1 ⟨he, rfl⟩; rw [HZ.out] at he; subst he)
    | (go_at_call 9; refine (HR.out _ rB2).mono ?_; rintro e w2 ⟨he, rfl⟩; subst he))
  have BA : Below w'.heap.size w' (w'.alloc (.cells #[.slice Ab k cb, .slice E (xs.length - k) (cb - k)] 22)).drew := HBL.out.drew
  clear HBL HZ HP HC HR rB rB2 b0 b1 b3 hE SB
  generalize (w'.alloc (.cells #[.slice Ab k cb, .slice E (xs.length - k) (cb - k)] 22)).drew = wA at BA ⊢
  replace oB := OwnB.fr oB (Fr.of_below (S := nothing) BA) (fun _ _ h => h)
  replace XA := SlB.bl XA BA (by omega)
  replace B1 := Bl.trans B1 (Bl.low BA (by omega))
  have hsA := B1.size
  have hsB := BA.size
  clear BA
  have SB := SlB.of_own oB
  have HRf := Lib.hid (fun w1 => rfits_calls xs.length p w1 (by omega))
  rename_i hK hH
  refine hK _ _ ?_
  clear hK hH
  rcases hf : fitsAt xs.length p with _ | _
  · go_wp2_with fail
    refine (seal_no Ab xs.length cb p wA (by omega) hf).mono ?_
    rintro e w1 ⟨rfl, rfl⟩
    have tx := slb_str (SlB.fr SB (S := nothing) (Fr.refl _ _).drew (fun _ _ _ h => h))
    have ta := slb_str (SlB.fr XA (S := nothing) (Fr.refl _ _).drew (fun _ _ _ h => h))
    rw [hf] at HRf
    go_wp2_with fail
    go_region_held_law (fun wq => (convert 22 9 (.slice Ab xs.length cb)).run Try.prog wq = .ok (.string (bstr xs)) wq ∧ (convert 22 9 (.slice a xs.length cap)).run Try.prog wq = .ok (.string (bstr xs)) wq) (exact ⟨tx, ta⟩) (first
      | (go_at_call 11; refine (HRf.out _).mono ?_; rintro e w2 ⟨he, rfl⟩; subst he))
    all_goals
      rename_i hK hH
      refine hK _ _ ?_
      clear hK hH
      go_wp2_with fail
      refine (sealed_no Ab xs.length cb p _ (by omega) hf).mono ?_
      rintro e w3 ⟨rfl, rfl⟩
      go_wp2
      go_ret
      exact ⟨rfl, B1.drew⟩
  · rw [hf] at HRf
    obtain ⟨q, rfl, hq⟩ : ∃ q : Nat, p = q ∧ q + 4 ≤ xs.length := by
      simp only [fitsAt, decide_eq_true_eq] at hf
      exact ⟨p.toNat, by omega, by omega⟩
    clear hf
    go_wp2_with fail
    refine (seal_calls _ _ Ab cb xs q wA SB (by omega) (by omega) ib hq).mono ?_
    rintro e w1 ⟨Bs, cs, rfl, os, B3⟩
    replace oB := OwnB.fr oB (Fr.of_below (S := nothing) B3) (fun _ _ h => h)
    replace XA := SlB.bl XA B3 hsA
    replace B1 := Bl.trans B1 (Bl.low B3 hsA)
    have hs1 := B3.size
    clear SB B3
    have tx := slb_str (SlB.fr (SlB.of_own oB) (S := nothing) (Fr.refl _ _).drew (fun _ _ _ h => h))
    have ta := slb_str (SlB.fr XA (S := nothing) (Fr.refl _ _).drew (fun _ _ _ h => h))
    go_wp2_with fail
    go_region_held_law (fun wq => (convert 22 9 (.slice Ab xs.length cb)).run Try.prog wq = .ok (.string (bstr xs)) wq ∧ (convert 22 9 (.slice a xs.length cap)).run Try.prog wq = .ok (.string (bstr xs)) wq) (exact ⟨tx, ta⟩) (first
      | (go_at_call 11; refine (HRf.out _).mono ?_; rintro e w2 ⟨he, rfl⟩; subst he))
    all_goals
      rename_i hK hH
      refine hK _ _ ?_
      clear hK hH
      clear tx ta
      replace oB := OwnB.fr oB (S := nothing) (Fr.refl _ _).drew (fun _ _ h => h)
      replace os := OwnB.fr os (S := nothing) (Fr.refl _ _).drew (fun _ _ h => h)
      replace B1 := B1.drew
      rw [show w1.heap.size = w1.drew.heap.size from rfl] at hs1
      generalize w1.drew = w2 at oB os B1 hs1 ⊢
      go_wp2_with fail
      refine (rseal_calls _ _ Ab cb xs q w2 (SlB.of_own oB) (by omega) ib hq).mono ?_
      rintro e w3 ⟨Br, cr, rfl, or, B4⟩
      replace oB := OwnB.fr oB (Fr.of_below (S := nothing) B4) (fun _ _ h => h)
      replace os := OwnB.fr os (Fr.of_below (S := nothing) B4) (fun _ _ h => h)
      replace B1 := Bl.trans B1 (Bl.low B4 (by omega))
      have hs2 := B4.size
      clear B4
      have hcs : cs ≤ 9223372036854775807 := by
        obtain ⟨A', cc, e, h1, h2, h3, h4⟩ := SlB.of_own os
        injection e with _ _ e2
        subst e2
        unfold maxLen at h2
        omega
      replace oB := OwnB.fr oB (S := nothing) (Fr.refl _ _).drew (fun _ _ h => h)
      replace os := OwnB.fr os (S := nothing) (Fr.refl _ _).drew (fun _ _ h => h)
      replace or := OwnB.fr or (S := nothing) (Fr.refl _ _).drew (fun _ _ h => h)
      replace B1 := B1.drew
      have tx := slb_str (SlB.of_own oB)
      have ts := slb_str (SlB.of_own os)
      have tr := slb_str (SlB.of_own or)
      have C1 := sealed_calls _ _ Bs cs (sealW xs q) q w3.drew (by rw [sealW_len]; exact SlB.of_own os) (by rw [sealW_len]; omega) hcs (isb_sealW ib q) (by rw [sealW_len]; exact hq)
      rw [sealW_len, seal_twice hq, show decide (sealW xs q = sealW xs q) = true by simp] at C1
      have HC1 := Lib.hid C1
      have HE := bstr_beq ib (isb_sealW ib q)
      rw [show decide (xs = sealW xs q) = decide (sealW xs q = xs) by simp only [eq_comm]] at HE
      have HC2 := Lib.hid (fun w4 (o : OwnB w4 w0.heap.size 5 (.slice Ab xs.length cb) xs) => sealed_calls _ _ Ab cb xs q w4 (SlB.of_own o) (by omega) (by omega) ib hq)
      generalize hD : decide (sealW xs q = xs) = D at *
      clear hD
      generalize sealW xs q = ys at *
      clear C1
      go_wp2_with fail
      go_region_held_law (fun wq => (convert 22 9 (.slice Ab xs.length cb)).run Try.prog wq = .ok (.string (bstr xs)) wq ∧ (convert 22 9 (.slice Bs xs.length cs)).run Try.prog wq = .ok (.string (bstr ys)) wq ∧ (convert 22 9 (.slice Br xs.length cr)).run Try.prog wq = .ok (.string (bstr ys)) wq) (first | exact ⟨tx, ts, tr⟩ | exact ⟨tx4, ts4, tr4⟩ | exact ⟨tx5, ts5, tr5⟩) (first
        | (go_at_call 12; refine (HC2.out _ oB4).mono ?_; rintro e w5 ⟨he, B6⟩; subst he; have tx5 := slb_str (SlB.of_own (OwnB.fr oB4 (Fr.of_below (S := nothing) B6) (fun _ _ h => h))); have ts5 := slb_str (SlB.of_own (OwnB.fr os4 (Fr.of_below (S := nothing) B6) (fun _ _ h => h))); have tr5 := slb_str (SlB.of_own (OwnB.fr or4 (Fr.of_below (S := nothing) B6) (fun _ _ h => h))); have B7 := Bl.trans B5 (Bl.low B6 B5.size))
        | (go_at_call 12; refine HC1.out.mono ?_; rintro e w4 ⟨he, B4⟩; subst he; have oB4 := OwnB.fr oB (Fr.of_below (S := nothing) B4) (fun _ _ h => h); have os4 := OwnB.fr os (Fr.of_below (S := nothing) B4) (fun _ _ h => h); have or4 := OwnB.fr or (Fr.of_below (S := nothing) B4) (fun _ _ h => h); have tx4 := slb_str (SlB.of_own oB4); have ts4 := slb_str (SlB.of_own os4); have tr4 := slb_str (SlB.of_own or4); have B5 := Bl.trans B1 (Bl.low B4 B1.size); clear B4))
      all_goals
        rename_i hK hH
        refine hK _ _ ?_
        clear hK hH
        go_wp2
        go_ret
        exact ⟨rfl, by assumption⟩
end Go.Proofs.Ytdapcjeofgimgaa.CrcSeals
