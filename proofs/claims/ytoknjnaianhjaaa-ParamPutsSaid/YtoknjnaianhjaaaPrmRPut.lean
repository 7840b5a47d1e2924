/- Contract of flumeref05.Put. Conditions: each names its blocks and the bounds. -/
import Derived.Test.YtoknjnaianhjaaaPrmRGet
namespace Go.Proofs.Ytoknjnaianhjaaa.Prm
open Go.RowKit Go.Proofs.Ytoknjnaianhjaaa.Mem Go.Proofs.Ytoknjnaianhjaaa.Octet
set_option linter.unusedVariables false
set_option linter.unusedSimpArgs false
/-- What is kept in a round: the bytes so far, the list, the parameter and its bytes. -/
def PutSt (w0 : World) (lo hi g : Nat) (A : Option Addr) (ps : List Pm) (kk : Int) (sv : Value) (xs : List Int) (v : Value) (zs : List Int) (w : World) : Prop :=
  OwnB w w0.heap.size 5 v zs ∧ PmC w lo hi A ps ∧ Blk w g 43 #[.int .u16 kk, sv] ∧ SlB w lo hi sv xs ∧ Below w0.heap.size w0 w ∧ hi ≤ w0.heap.size
section
variable {w0 w w' : World} {lo hi g : Nat} {A : Option Addr} {ps : List Pm} {kk : Int} {sv : Value} {xs : List Int} {v v' : Value} {zs zs' : List Int}
theorem PutSt.size (h : PutSt w0 lo hi g A ps kk sv xs v zs w) : w0.heap.size ≤ w.heap.size := h.2.2.2.2.1.size
theorem PutSt.bl (h : PutSt w0 lo hi g A ps kk sv xs v zs w) (f : Below w.heap.size w w') : PutSt w0 lo hi g A ps kk sv xs v zs w' := by
  obtain ⟨h1, h2, h3, h4, h5, h6⟩ := h
  have hs := h5.size
  exact ⟨OwnB.fr h1 (S := nothing) (Fr.of_below f) (fun _ _ h => h), h2.fr (S := nothing) (Fr.of_below f) (fun _ _ _ h => h), Blk.fr (S := nothing) h3 (Fr.of_below f) id, SlB.fr h4 (S := nothing) (Fr.of_below f) (fun _ _ _ h => h), Bl.trans h5 (Bl.low f hs), h6⟩
theorem PutSt.fr (h : PutSt w0 lo hi g A ps kk sv xs v zs w) (own : OwnB w' w0.heap.size 5 v' zs') (f : Fr (OfV v) w w') : PutSt w0 lo hi g A ps kk sv xs v' zs' w' := by
  obtain ⟨h1, h2, h3, h4, h5, h6⟩ := h
  have hge : ∀ k, OfV v k → w0.heap.size ≤ k := fun k hk => OwnB.ge h1 k hk
  exact ⟨own, h2.fr f (fun k _ h h' => by have := hge k h'; omega), Blk.fr h3 f (fun h => OwnB.ne h1 h3 (by decide) h), SlB.fr h4 f (fun k _ h h' => by have := hge k h'; omega), Bl.trans h5 (Bl.of_fr f h5.size hge), h6⟩
theorem PutSt.app (h : PutSt w0 lo hi g A ps kk sv xs v zs w) (hown : w'.ownsRow w0.heap.size 5 1 v' zs'.length (byts zs')) (hg : w.grownBy w' v.ownBlock) : PutSt w0 lo hi g A ps kk sv xs v' zs' w' :=
  h.fr hown ((Fr.refl _ _).grown hg (fun k hk => .inl hk))
theorem PutSt.pad (h : PutSt w0 lo hi g A ps kk sv xs v zs w) (k : AppP w v zs' v' w') : PutSt w0 lo hi g A ps kk sv xs v' zs' w' := by
  refine h.fr (OwnB.rise k.1 (fun b hb => ?_)) k.2.2
  rcases k.2.1 with e | ⟨b', e, h1, _⟩
  · rw [e] at hb; exact OwnB.ge h.1 b hb
  · rw [e] at hb; injection hb with hb; have := h.size; omega
theorem PutSt.c0 (h : PutSt w0 lo hi g A ps kk sv xs v zs w) : w.cell? ⟨g, 0, none⟩ = some (.int .u16 kk) := by simpa using h.2.2.1.cell 0
theorem PutSt.c1 (h : PutSt w0 lo hi g A ps kk sv xs v zs w) : w.cell? ⟨g, 1, none⟩ = some sv := by simpa using h.2.2.1.cell 1
theorem PutSt.shape (h : PutSt w0 lo hi g A ps kk sv xs v zs w) : ∃ X n k, v = .slice X n k ∧ n = zs.length := by
  obtain ⟨X, k, e, _⟩ := OwnB.slice h.1; exact ⟨X, _, k, e, rfl⟩
end
theorem rd_sl {w : World} {lo hi : Nat} {A : Option Addr} {n c : Nat} {xs : List Int} (h : SlB w lo hi (.slice A n c) xs) : RdB w lo hi A xs := by
  obtain ⟨A', cap, e, h1, h2, h3, h4⟩ := h
  injection e with e1 _ _
  subst e1
  exact h4
theorem rd_own {w : World} {base n : Nat} {A : Option Addr} {m c : Nat} {xs : List Int} (h : OwnB w base 5 (.slice A m c) xs) (hn : xs.length = n) : RdB w base w.heap.size A xs := rd_sl (SlB.of_own h)
theorem txt_two (v : Int) : txt v 2 = [v / 256 % 256, v % 256] := by simp [txt, List.range_succ]
/-- What flumeref05.Put hands back. -/
def RPutR (w : World) (ps : List Pm) (e : Ending) (w' : World) : Prop :=
  Below w.heap.size w w' ∧ if allFit ps then ∃ B c, e = .returned (.tuple #[.slice B (enc ps).length c, .bool true]) ∧ OwnB w' w.heap.size 5 (.slice B (enc ps).length c) (enc ps)
    else e = .returned (.tuple #[.slice none 0 0, .bool false])
set_option maxHeartbeats 4000000 in
set_option maxRecDepth 100000 in
theorem rput_calls (lo hi : Nat) (A : Option Addr) (cap : Nat) (ps : List Pm) (w : World) (h : PmC w lo hi A ps) (hhi : hi ≤ w.heap.size) (hb : ∀ p ∈ ps, InB p) (hl : (enc ps).length ≤ 140737488350000) (hn : ps.length ≤ 140737488355328) :
    Calls Try.prog 13 #[.slice A ps.length cap] w (RPutR w ps) := by
  have hup := Try.underlying43
  obtain ⟨ib, hib, hbz0, hbz1, hbz2⟩ := info_parts info_b
  go_enter Try.func13, Try.ntmps13
  go_wp2_with fail
  go_loopw [4, 9] (fun v i wr => ∃ k : Nat, k ≤ ps.length ∧ i = .int .i64 k ∧ (∀ j (hj : j < ps.length), j < k → ps[j].2.length ≤ 65531) ∧ OwnB wr w.heap.size 5 v (enc (ps.take k)) ∧ PmC wr lo hi A ps ∧ Below w.heap.size w wr) (fun _ i _ => ps.length - (intOf i).toNat)
  case atStart => exact ⟨0, Nat.zero_le _, rfl, (fun j _ h => by omega), OwnB.nil _ _ _, h, Below.refl _ _⟩
  case round =>
    clear h
    obtain ⟨k, hk, rfl, hfit, own, P0, B0⟩ := hrel
    by_cases hlt : k < ps.length
    · obtain ⟨ad, s, rfl, h1, h2, h3, h4, h5⟩ := P0 k hlt
      have hin := hb _ (List.getElem_mem hlt)
      have HE := Lib.hid (enc_take ps k hlt)
      have hle := enc_take_le ps (k + 1)
      have hnext : ∀ j (hj : j < ps.length), j < k + 1 → ps[k].2.length ≤ 65531 → ps[j].2.length ≤ 65531 := fun j hj h hp => by
        rcases Nat.lt_succ_iff_lt_or_eq.1 h with h | h
        · exact hfit j hj h
        · subst h; exact hp
      have hbad : ¬ ps[k].2.length ≤ 65531 → allFit ps = false := fun hp => by
        unfold allFit
        rw [List.all_eq_false]
        exact ⟨ps[k], List.getElem_mem hlt, by simpa using hp⟩
      have HN := Lib.hid hnext
      have HX := Lib.hid hbad
      clear hnext hbad hfit
      generalize ps[k] = p at h3 h5 hin HE HN HX
      obtain ⟨kk, xs⟩ := p
      obtain ⟨As, cs, rfl⟩ := sl_shape h5
      rw [add_add_ _ _ _ (by decide)] at h4
      have hel : (encP (kk, xs)).length = all (xs.length + 4) := encP_len (kk, xs)
      have hzm := enc_mod (ps.take k)
      rw [HE.out, List.length_append] at hle
      have ha := all_add xs.length
      have h3' : wr.cell? (ad.add (k * 2)) = some (.int .u16 kk) := h3
      have hkl : (k : Int) < ps.length := by omega
      have hws := B0.size
      have S0 : PutSt w lo hi wr.heap.size (some ad) ps kk (.slice As xs.length cs) xs _ (enc (ps.take k)) (wr.alloc (.cells #[.int .u16 kk, .slice As xs.length cs] 43)) :=
        ⟨OwnB.fr own (S := nothing) ((Fr.refl _ wr).alloc _) (fun _ _ h => h), P0.fr (S := nothing) ((Fr.refl _ wr).alloc _) (fun _ _ _ h => h), Blk.new wr _ _, SlB.fr h5 (S := nothing) ((Fr.refl _ wr).alloc _) (fun _ _ _ h => h), B0.alloc hws _, hhi⟩
      obtain ⟨hk0, hk1, hxb⟩ := hin
      replace hk0 : 0 ≤ kk := hk0
      replace hk1 : kk < 65536 := hk1
      have HFIN := Lib.hid (show enc (ps.take (k + 1)) = _ from (HE.out.trans (encP_app (enc (ps.take k)) kk xs hzm)))
      obtain ⟨zs, hzs⟩ : ∃ zs, enc (ps.take k) = zs := ⟨_, rfl⟩
      rw [hzs] at S0 HFIN hle hzm
      obtain ⟨X0, n0, k0, rfl, hn0⟩ := S0.shape
      replace hn0 := Lib.hid hn0
      have hzl : zs.length + (all (xs.length + 4)) ≤ 140737488350000 := by rw [hel] at hle; omega
      rw [ha] at hzl
      clear hzs h3 own P0 h5 hle hel ha B0 HE hxb hzm
      by_cases hlong : xs.length ≤ 65531
      · have hld : decide ((65531 : Int) < xs.length) = false := decide_eq_false (by omega)
        have hl1 : zs.length + (txt kk 2).length ≤ 140737488355328 := by rw [txt_len]; omega
        have hl2 : (zs ++ txt kk 2).length + (txt ((xs.length : Int) + 4) 2).length ≤ 140737488355328 := by rw [List.length_append, txt_len, txt_len]; omega
        have hl3 : (zs ++ txt kk 2 ++ txt ((xs.length : Int) + 4) 2).length + xs.length ≤ 140737488355328 := by rw [List.length_append, List.length_append, txt_len, txt_len]; omega
        have hl4 : (zs ++ txt kk 2 ++ txt ((xs.length : Int) + 4) 2 ++ xs).length + 1000 ≤ 140737488355328 := by rw [List.length_append, List.length_append, List.length_append, txt_len, txt_len]; omega
        have hxl : xs.length ≤ 65531 := hlong
        have HL1 := Lib.hid hl1
        have HL2 := Lib.hid hl2
        have HL3 := Lib.hid hl3
        have HL4 := Lib.hid hl4
        have HZL := Lib.hid hzl
        clear HX hl1 hl2 hl3 hl4 hzl
        go_wp2_with fail
        refine (rtext_calls kk 2 _ (by omega) (by omega) (by decide)).mono ?_
        rintro e W1 ⟨A1, k1, c1, rfl, rfl, o1, B1⟩
        have S1 := S0.bl B1
        have r1 := rd_own o1 (txt_len kk 2)
        clear S0 h3' h4 B1 o1
        go_wp2_with (at_builtin; refine wpList_append_b _ rfl (.tmp 17) (.tmp 21) _ rfl w.heap.size 5 ib Try.underlying26 hib hbz0 hbz1 hbz2 _ _ rfl S1.1 _ _ _ _ _ (txt kk 2) rfl (txt_len kk 2).symm r1 HL1.out S1.size ?_; intro vS2 WS2 hown hg hat; have S2 := S1.app hown hg; have cP0 := S2.c0; have cP1 := S2.c1; obtain ⟨XS2, nS2, kS2, rfl, hnS2⟩ := S2.shape; replace hnS2 := Lib.hid hnS2; clear hown hg hat S1 r1)
        refine (rtext_calls ((xs.length : Int) + 4) 2 _ (by omega) (by omega) (by decide)).mono ?_
        rintro e W3 ⟨A3, k3, c3, rfl, rfl, o3, B3⟩
        have S3 := S2.bl B3
        have r3 := rd_own o3 (txt_len ((xs.length : Int) + 4) 2)
        have cP0 := S3.c0
        have cP1 := S3.c1
        clear S2 B3 o3
        go_wp2_with (first | (at_builtin; refine wpList_append_b _ rfl (.tmp 31) (.tmp 33) _ rfl w.heap.size 5 ib Try.underlying26 hib hbz0 hbz1 hbz2 _ _ rfl S4.1 _ _ _ _ _ xs rfl rfl r4 HL3.out S4.size ?_; intro vS5 WS5 hown hg hat; have S5 := S4.app hown hg; have cP0 := S5.c0; have cP1 := S5.c1; obtain ⟨XS5, nS5, kS5, rfl, hnS5⟩ := S5.shape; replace hnS5 := Lib.hid hnS5; clear hown hg hat S4 r4) | (at_builtin; refine wpList_append_b _ rfl (.tmp 23) (.tmp 29) _ rfl w.heap.size 5 ib Try.underlying26 hib hbz0 hbz1 hbz2 _ _ rfl S3.1 _ _ _ _ _ (txt ((xs.length : Int) + 4) 2) rfl (txt_len ((xs.length : Int) + 4) 2).symm r3 HL2.out S3.size ?_; intro vS4 WS4 hown hg hat; have S4 := S3.app hown hg; have cP0 := S4.c0; have cP1 := S4.c1; obtain ⟨XS4, nS4, kS4, rfl, hnS4⟩ := S4.shape; replace hnS4 := Lib.hid hnS4; clear hown hg hat S3 r3; have r4 := rd_sl S4.2.2.2.1))
        refine (rpad_calls _ _ 4 _ (OwnB.low S5.1 (Nat.zero_le _)) HL4.out (by decide)).mono ?_
        rintro e W6 ⟨A6, k6, c6, rfl, hk6, ap⟩
        replace hk6 := Lib.hid hk6
        have HS6 := Lib.hid (S5.pad ap)
        clear S5 ap cP0 cP1
        go_wp2
        go_roundw
        case rel =>
          have S6 := HS6.out
          refine ⟨k + 1, by omega, by go_num, (fun j hj h => HN.out j hj h hlong), ?_, S6.2.1, S6.2.2.2.2.1⟩
          rw [HFIN.out]
          have o6 := S6.1
          have hpt : ∀ m : Nat, padTo m 4 = (4 - m % 4) % 4 := fun m => rfl
          rw [hpt, txt_two, txt_two, Int.add_comm (xs.length : Int) 4] at o6
          exact o6
        case measure => simp [intOf]; omega
      · have hld : decide ((65531 : Int) < xs.length) = true := decide_eq_true (by omega)
        have HF := HX.out hlong
        have B1 := S0.2.2.2.2.1
        go_wp2
        go_ret2
        refine ⟨B1, ?_⟩
        rw [HF]
        rfl
    · obtain rfl : k = ps.length := by omega
      rw [List.take_length] at own
      have hall : allFit ps = true := List.all_eq_true.2 fun p hp => by
        obtain ⟨j, hj, rfl⟩ := List.mem_iff_getElem.1 hp
        simpa using hfit j hj hj
      obtain ⟨A9, c9, rfl, -, -⟩ := OwnB.slice own
      have hkl : ¬ ((ps.length : Nat) : Int) < ps.length := by omega
      clear hfit
      go_wp2
      go_ret2
      refine ⟨B0, ?_⟩
      rw [hall]
      exact ⟨_, _, rfl, own⟩
end Go.Proofs.Ytoknjnaianhjaaa.Prm
