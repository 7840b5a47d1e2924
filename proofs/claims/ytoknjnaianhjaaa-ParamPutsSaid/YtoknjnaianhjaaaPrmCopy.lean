/- Contracts of flumeref05.Copy and param.Find. Conditions: each names its blocks and the bounds. -/
import Derived.Test.YtoknjnaianhjaaaPrmFirst
namespace Go.Proofs.Ytoknjnaianhjaaa.Prm
open Go.RowKit Go.Proofs.Ytoknjnaianhjaaa.Mem Go.Proofs.Ytoknjnaianhjaaa.Octet
set_option linter.unusedVariables false
set_option linter.unusedSimpArgs false
theorem OwnPm.split {w : World} {base : Nat} {v : Value} {ps : List Pm} (h : OwnPm w base v ps) : ∃ qs : List (Pm × Value), ps = qs.map Prod.fst ∧ qs.length = ps.length ∧ w.ownsRow base 43 2 v qs.length (pcells qs) ∧
    ∀ q ∈ qs, OwnB w base 5 q.2 q.1.2 ∧ ∀ k, q.2.ownBlock = some k → v.ownBlock ≠ some k := by
  obtain ⟨qs, rfl, h1, h2⟩ := h
  exact ⟨qs, rfl, by simp, h1, h2⟩
set_option maxHeartbeats 4000000 in
theorem copy_calls (lo hi : Nat) (A : Option Addr) (c : Nat) (ps : List Pm) (w : World) (h : PmC w lo hi A ps) (hhi : hi ≤ w.heap.size) (hn : ps.length ≤ 1000000) (hx : ∀ p ∈ ps, p.2.length ≤ 1000000) :
    Calls Try.prog 11 #[.slice A ps.length c] w fun e w' => ∃ B c', e = .returned (.slice B ps.length c') ∧ OwnPm w' w.heap.size (.slice B ps.length c') ps ∧ Below w.heap.size w w' := by
  have hup := Try.underlying43
  obtain ⟨ib, hib, hbz0, hbz1, hbz2⟩ := info_parts info_b
  obtain ⟨i0, hi0, hz0, hz1, hz2⟩ := info_parts info_p
  go_enter Try.func11, Try.ntmps11
  go_wp2_with fail
  go_loopw [3, 8] (fun v i wr => ∃ k : Nat, k ≤ ps.length ∧ i = .int .i64 k ∧ OwnPm wr w.heap.size v (ps.take k) ∧ PmC wr lo hi A ps ∧ Below w.heap.size w wr) (fun _ i _ => ps.length - (intOf i).toNat)
  case atStart => exact ⟨0, Nat.zero_le _, rfl, OwnPm.nil _ _, h, Below.refl _ _⟩
  case round =>
    clear h
    obtain ⟨k, hk, rfl, O, P, B⟩ := hrel
    by_cases hlt : k < ps.length
    · obtain ⟨ad, s, rfl, h1, h2, h3, h4, h5⟩ := P k hlt
      have hxl := hx _ (List.getElem_mem hlt)
      have HT := Lib.hid (show ps.take (k + 1) = ps.take k ++ [ps[k]] by rw [List.take_add_one, List.getElem?_eq_getElem hlt]; rfl)
      have hplen : (ps.take k).length = k := by simp; omega
      generalize ps[k] = q at h3 h5 HT hxl
      obtain ⟨kk, xs⟩ := q
      replace hxl : xs.length ≤ 1000000 := hxl
      obtain ⟨As, cs, rfl⟩ := sl_shape h5
      rw [add_add_ _ _ _ (by decide)] at h4
      have h3' : wr.cell? (ad.add (k * 2)) = some (.int .u16 kk) := h3
      have hkl : (k : Int) < ps.length := by omega
      have hws := B.size
      obtain ⟨AO, cO, eO⟩ := O.shape
      rw [hplen] at eO
      subst eO
      have HO5 := Lib.hid (fun k hk => (O.lt k hk).2)
      have HB5 := Lib.hid (fun k hk => (O.lt k hk).1)
      obtain ⟨W1, hW1⟩ : ∃ W1, (wr.alloc (.cells #[.int .u16 kk, .slice As xs.length cs] 43)).alloc (.cells #[] 5) = W1 := ⟨_, rfl⟩
      have bP : Blk W1 wr.heap.size 43 #[.int .u16 kk, .slice As xs.length cs] := by rw [← hW1]; exact (Blk.new wr _ _).alloc _
      have hW1s : W1.heap.size = wr.heap.size + 2 := by rw [← hW1]; simp
      have B1 : Below wr.heap.size wr W1 := by rw [← hW1]; exact ((Below.refl _ wr).alloc (Nat.le_refl _) _).alloc (by simp) _
      have own0 : W1.ownsRow (wr.heap.size + 1) 5 1 (.slice (some ⟨wr.heap.size + 1, 0, none⟩) 0 0) ([] : List Int).length (byts []) := by
        have e : (wr.alloc (.cells #[.int .u16 kk, .slice As xs.length cs] 43)).heap.size = wr.heap.size + 1 := by simp
        rw [← hW1]
        refine ⟨rfl, .inr ⟨wr.heap.size + 1, 0, #[], rfl, Nat.le_refl _, ?_, Nat.le_refl _, Nat.zero_le _, rfl, rfl⟩⟩
        have := heap_alloc_new (wr.alloc (.cells #[.int .u16 kk, .slice As xs.length cs] 43)) (.cells #[] 5)
        rwa [e] at this
      obtain ⟨A', cc, e5, g1, g2, g3, g4⟩ := SlB.bl (hi := hi) h5 B1 (by omega)
      injection e5 with e5 _ e6
      subst e5; subst e6
      have c0 := bP.cell 0
      have c1 := bP.cell 1
      have f1 := bP.frozen 1
      simp at c0 c1
      have HW1 := Lib.hid hW1
      have hbb : wr.heap.size + 1 ≤ W1.heap.size := by omega
      clear hW1
      have hapl : ([] : List Int).length + xs.length ≤ 140737488355328 := by simp; omega
      clear h3 h5 g1 g2 g3
      rw [← HW1.out] at own0 g4 hbb bP B1
      clear c0 c1 f1
      go_upto_region 6 with (at_builtin; refine wpList_append_b _ rfl (.tmp 12) (.tmp 14) _ rfl (wr.heap.size + 1) 5 ib Try.underlying26 hib hbz0 hbz1 hbz2 _ [] rfl own0 lo hi _ _ cs xs rfl rfl g4 hapl hbb ?_; intro v1 w2 hown hg hat; have o1 : OwnB w2 (wr.heap.size + 1) 5 v1 xs := hown; obtain ⟨B1s, c1s, rfl, -, -⟩ := OwnB.slice o1; have G1 : Fr (OfV (.slice (some ⟨wr.heap.size + 1, 0, none⟩) 0 0)) _ w2 := (Fr.refl _ _).grown hg (fun k hk => .inl hk); have bP2 := Blk.fr bP G1 (fun h => by have := Option.some.inj h; simp at this); have c0 := bP2.cell 0; have c1 := bP2.cell 1; have f1 := bP2.frozen 1; simp at c0 c1; have HG1 := Lib.hid G1; have HO1 := Lib.hid o1; have HBP := Lib.hid bP2; clear hown hg hat own0 o1 G1 bP2 bP)
      have bP3 := (HBP.out.set 1 (.slice B1s xs.length c1s)).cast (cs' := #[.int .u16 kk, .slice B1s xs.length c1s]) rfl
      have fS : Fr (only wr.heap.size) w2 (w2.setCell ⟨wr.heap.size, 1, none⟩ (.slice B1s xs.length c1s)) := (Fr.refl (only wr.heap.size) w2).set_only 1 none (.slice B1s xs.length c1s)
      have o3 := OwnB.fr HO1.out fS (fun k h1 h2 => by have h3 : k = wr.heap.size := h2; have := OwnB.ge HO1.out k h1; omega)
      have FW : Below wr.heap.size wr (w2.setCell ⟨wr.heap.size, 1, none⟩ (.slice B1s xs.length c1s)) := (Bl.trans B1 (Bl.of_fr HG1.out (by omega) (fun k h => by have h2 := Option.some.inj h; simp at h2; omega))).setCell (Nat.le_refl _) _
      clear HBP HO1 HG1 fS g4 hbb hapl h4 h3' c0 c1 f1 B1 HW1 hW1s
      generalize w2.setCell ⟨wr.heap.size, 1, none⟩ (.slice B1s xs.length c1s) = w3 at bP3 o3 FW ⊢
      have c0 := bP3.cell 0
      have c1 := bP3.cell 1
      simp at c0 c1
      have O3 := OwnPm.fr (S := nothing) O (Fr.of_below FW) (fun _ _ h => h)
      have P3 := P.fr (S := nothing) (Fr.of_below FW) (fun _ _ _ h => h)
      have B3 := Bl.trans B (Bl.low FW hws)
      have hws3 := FW.size
      clear O P B FW bP3
      obtain ⟨qs, hps, hql, hrow, hel⟩ := O3.split
      have hqb : qs.length + 1 ≤ 1000001 := by omega
      have hrow2 := row_fr (S := nothing) hrow ((Fr.refl _ w3).alloc (.cells #[.int .u16 kk, .slice B1s xs.length c1s] 43)) (fun _ _ h => h)
      have hel2 : ∀ q ∈ qs, OwnB (w3.alloc (.cells #[.int .u16 kk, .slice B1s xs.length c1s] 43)) w.heap.size 5 q.2 q.1.2 ∧ ∀ j, q.2.ownBlock = some j → (Value.slice AO k cO).ownBlock ≠ some j :=
        fun q hq => ⟨OwnB.fr (hel q hq).1 (S := nothing) ((Fr.refl _ w3).alloc _) (fun _ _ h => h), (hel q hq).2⟩
      have o1' : OwnB (w3.alloc (.cells #[.int .u16 kk, .slice B1s xs.length c1s] 43)) w.heap.size 5 (.slice B1s xs.length c1s) xs :=
        OwnB.low (OwnB.fr o3 (S := nothing) ((Fr.refl _ w3).alloc _) (fun _ _ h => h)) (by omega)
      have hne1 : ∀ j, (Value.slice B1s xs.length c1s).ownBlock = some j → (Value.slice AO k cO).ownBlock ≠ some j := fun j h1 h2 => by
        have := OwnB.ge o3 j h1; have := HO5.out j h2; omega
      have P4 := P3.fr (S := nothing) ((Fr.refl _ w3).alloc (.cells #[.int .u16 kk, .slice B1s xs.length c1s] 43)) (fun _ _ _ h => h)
      have B4 := B3.alloc B3.size (.cells #[.int .u16 kk, .slice B1s xs.length c1s] 43)
      have hnews := new_two w3 (.int .u16 kk) (.slice B1s xs.length c1s) 43
      have hgb : w.heap.size ≤ (w3.alloc (.cells #[.int .u16 kk, .slice B1s xs.length c1s] 43)).heap.size := by simp; omega
      have HPS := Lib.hid hps
      clear hrow hel o3 P3 B3 hps O3
      have hin : qs.length + 1 ≤ maxLen := by unfold maxLen; omega
      have hby : (qs.length + 1) * 32 ≤ 140737488355328 := by omega
      rw [hplen] at hql
      go_wp2_with (at_builtin; refine wpList_append_c _ rfl (.tmp 17) (.tmp 19) _ rfl w.heap.size 43 i0 _ 2 32 Try.underlying22 hi0 hz0 hz1 hz2 rfl (by decide) _ qs.length (pcells qs) rfl hrow2 ⟨w3.heap.size, 0, none⟩ 1 1 [.int .u16 kk, .slice B1s xs.length c1s] rfl rfl hnews (by intro u hu; simp at hu; rcases hu with rfl | rfl <;> rfl) hin hby hgb ?_; intro v' w' hown hg hat; have O2 := OwnPm.more HPS.out hel2 o1' hne1 hown hg hat; have fG : Fr (OfV (.slice AO k cO)) (w3.alloc (.cells #[.int .u16 kk, .slice B1s xs.length c1s] 43)) w' := (Fr.refl _ _).grown hg (fun k hk => .inl hk); have HO2 := Lib.hid O2; have HFG := Lib.hid fG; clear hown hg hat O2 fG hel2 o1' hnews hrow2)
      go_roundw
      case rel =>
        have fG := HFG.out
        exact ⟨k + 1, by omega, by go_num, by rw [HT.out]; exact HO2.out, P4.fr fG (fun b _ h2 h => by have := HB5.out _ h; omega), Bl.trans B4 (Bl.of_fr fG B4.size (fun b h => HB5.out _ h))⟩
      case measure => simp [intOf]; omega
    · obtain rfl : k = ps.length := by omega
      rw [List.take_length] at O
      obtain ⟨A5, c5, rfl⟩ := O.shape
      have hkl : ¬ ((ps.length : Nat) : Int) < ps.length := by omega
      go_wp2
      go_ret
      exact ⟨_, _, rfl, O, B⟩
end Go.Proofs.Ytoknjnaianhjaaa.Prm
