/- The walk of flumelaw05.ParamGets: true for all bytes. No conditions but the row's own. -/
import Derived.Test.YtoknjnaianhjaaaPrmRGet
namespace Go.Proofs.Ytoknjnaianhjaaa.ParamGets
open Go.RowKit Go.Proofs.Ytoknjnaianhjaaa.Mem Go.Proofs.Ytoknjnaianhjaaa.Octet Go.Proofs.Ytoknjnaianhjaaa.Prm
set_option linter.unusedVariables false
set_option linter.unusedSimpArgs false
set_option maxHeartbeats 4000000 in
set_option maxRecDepth 100000 in
theorem walk (a : Option Addr) (cap : Nat) (l : List Int) (w : World) (hr : ReadsI w .u8 a l) (hc : l.length ≤ cap) (hm : cap ≤ maxLen) (hy : l.length * 1 ≤ 140737488351232)
    (hw : ∀ x ∈ l, (Lit.int .u8 x).wf = true) (hnil : a = none → cap = 0) :
    Calls Try.prog 4 #[.slice a l.length cap] w fun e w' => e = .returned (.bool true) ∧ Below w.heap.size w w' := by
  have X : SlB w 0 w.heap.size (.slice a l.length cap) l := ⟨a, cap, rfl, hc, hm, hnil, rdb_of hr⟩
  have IX : IsB l := fun x hx => range_u8 x (hw x hx)
  clear hw hr hnil hc hm
  go_enter Try.func4, Try.ntmps4
  go_wp2_with fail
  refine (first_calls w).mono ?_
  rintro e w0 ⟨rfl, B0⟩
  by_cases hbig : 100000 < l.length
  · have hd : (100000 : Int) < l.length := by omega
    go_wp2
    go_ret
    exact ⟨rfl, B0⟩
  · have hd : ¬ (100000 : Int) < l.length := by omega
    replace X := SlB.bl X B0 (Nat.le_refl _)
    have hlen : l.length ≤ 100000 := by omega
    go_wp2_with fail
    refine (get_calls _ _ _ l w0 X IX (by omega)).mono ?_
    rintro e w1 ⟨B1, Bp, cp, rfl, Op⟩
    replace X := SlB.bl X B1 B0.size
    replace B0 := Bl.trans B0 (Bl.low B1 B0.size)
    clear B1
    go_wp2_with fail
    refine (rget_calls _ _ a cap l w1 X B0.size IX (by omega)).mono ?_
    rintro e w2 ⟨Bq, cq, rfl, Oq, B1⟩
    replace X := SlB.bl X B1 B0.size
    replace Op := OwnPm.fr (S := nothing) Op (Fr.of_below B1) (fun _ _ h => h)
    replace B0 := Bl.trans B0 (Bl.low B1 B0.size)
    have hbp := @dec_bad l
    have hfp := enc_dec l.length l (Nat.le_refl _) IX
    generalize hpp : dec l = dp at *
    obtain ⟨ps, er⟩ := dp
    replace hbp : er ≠ 0 → ps = [] := hbp
    replace hfp : er = 0 → (∀ p ∈ ps, Fit p) ∧ enc ps = l := hfp
    replace Op : OwnPm w2 w0.heap.size (.slice Bp ps.length cp) ps := Op
    replace Oq : OwnPm w2 w1.heap.size (.slice Bq ps.length cq) ps := Oq
    obtain ⟨A7, c7, e7, P7⟩ := Op.pms
    injection e7 with e71 _ e73
    subst e71; subst e73
    obtain ⟨A8, c8, e8, P8⟩ := Oq.pms
    injection e8 with e81 _ e83
    subst e81; subst e83
    have hin : ∀ x ∈ ps, InB x := by
      intro x hx
      by_cases he : er = 0
      · have := (hfp he).1 x hx; exact ⟨this.1, this.2.1, this.2.2.1⟩
      · rw [hbp he] at hx; simp at hx
    have hpl : ps.length ≤ 100000 := by
      by_cases he : er = 0
      · have := enc_len_le ps; rw [(hfp he).2] at this; omega
      · rw [hbp he]; simp
    have CS := same_calls _ _ _ _ Bp Bq cp cq ps ps w2 P7 P8 hin hin (by omega)
    rw [decide_eq_true rfl] at CS
    have HCS := Lib.hid CS
    clear CS B1 Oq P8 Op hpp
    have hne : (er != er) = false := by simp
    have hs2 := B0.size
    by_cases he : er = 0
    · obtain ⟨hfit, henc⟩ := hfp he
      subst he
      clear hfp hbp
      go_wp2_with fail
      refine HCS.out.mono ?_
      rintro e w3 ⟨rfl, B3⟩
      replace X := SlB.bl X B3 B0.size
      replace P7 := P7.bl B3 (Nat.le_refl _)
      replace B0 := Bl.trans B0 (Bl.low B3 B0.size)
      have CP := put_calls _ _ Bp cp ps w3 P7 B3.size hin (by rw [henc]; omega) (by omega)
      have hall : allFit ps = true := List.all_eq_true.2 fun p hp => by simpa using (hfit p hp).2.2.2
      unfold PutR at CP
      simp only [hall, if_true, henc] at CP
      have HCP := Lib.hid CP
      clear CP hall hfit henc HCS P7 B3
      go_wp2_with fail
      refine HCP.out.mono ?_
      rintro e w4 ⟨B4, Bx, cx, rfl, ox⟩
      replace X := SlB.bl X B4 B0.size
      have tx := slb_str (SlB.of_own ox)
      have ty := slb_str X
      replace B0 := Bl.trans B0 (Bl.low B4 B0.size)
      clear ox X B4 HCP
      go_wp2
      go_ret
      exact ⟨rfl, B0⟩
    · rw [hbp he] at HCS ⊢
      have he2 : (er != 0) = true := by simpa using he
      clear he hfp hbp
      go_wp2_with fail
      refine HCS.out.mono ?_
      rintro e w3 ⟨rfl, B3⟩
      replace B0 := Bl.trans B0 (Bl.low B3 B0.size)
      go_wp2
      go_ret
      exact ⟨rfl, B0⟩
end Go.Proofs.Ytoknjnaianhjaaa.ParamGets
