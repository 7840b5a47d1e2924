/- The walk of flumelaw20.DcepUnframes: true for all numbers and bytes. Conditions: utf8's tables read as laid. -/
import Derived.Test.YtdbndinnakkloaaDoorDcpUnfr
import Derived.Test.YtdbndinnakkloaaDoorOwnUp
namespace Go.Proofs.YtdbndinnakkloaaDoor.DcepUnframes
open Go.RowKit Go.Proofs.YtdbndinnakkloaaDoor.Mem Go.Proofs.YtdbndinnakkloaaDoor.Octet Go.Proofs.YtdbndinnakkloaaDoor.Dcp
set_option linter.unusedVariables false
set_option linter.unusedSimpArgs false
set_option maxHeartbeats 4000000 in
set_option maxRecDepth 100000 in
theorem walk (p : Int) (a : Option Addr) (cap : Nat) (l : List Int) (w : World) (hT : Tabs w) (hk : (Lit.int .u32 p).wf = true) (hr : ReadsI w .u8 a l) (hc : l.length ≤ cap) (hm : cap ≤ maxLen) (hs : l.length * 1 ≤ 140737488351232) (hw : ∀ x ∈ l, (Lit.int .u8 x).wf = true) (hn : a = none → cap = 0) :
    Calls Tryd.prog 6 #[.int .u32 p, .slice a l.length cap] w fun e w' => e = .returned (.bool true) ∧ Below w.heap.size w w' := by
  have hB : IsB l := fun x hx => range_u8 x (hw x hx)
  have X : SlB w 0 w.heap.size (.slice a l.length cap) l := ⟨a, cap, rfl, hc, hm, hn, rdb_of hr⟩
  have hll : l.length ≤ 140737488351232 := by omega
  have HF := Lib.hid (first_calls w hT)
  have HLL := Lib.hid hll
  have HBB := Lib.hid hB
  have HT := Lib.hid hT
  have HXX := Lib.hid X
  clear hr hc hm hs hw hn hk hB hll hT X
  go_enter Tryd.func6, Tryd.ntmps6
  go_wp2_with fail
  refine HF.out.mono ?_
  rintro e w0 ⟨rfl, B0⟩
  clear HF
  by_cases h7 : 70000 < l.length
  · have hd7 : decide ((70000 : Int) < l.length) = true := decide_eq_true (by omega)
    clear h7
    go_wp2
    go_ret
    exact ⟨rfl, B0⟩
  · have hd7 : decide ((70000 : Int) < l.length) = false := decide_eq_false (by omega)
    have H7 := Lib.hid (show l.length ≤ 70000 by omega)
    clear h7
    obtain ⟨A3, c3, e3, -, -, -, rd⟩ := SlB.bl HXX.out B0 (Nat.le_refl _)
    injection e3 with e31 e32 e33
    subst e31; subst e33
    clear e32
    have own0 : (w0.alloc (.cells #[] 5)).ownsRow w0.heap.size 5 1 (.slice (some ⟨w0.heap.size, 0, none⟩) 0 0) ([] : List Int).length (byts []) :=
      ⟨rfl, .inr ⟨w0.heap.size, 0, #[], rfl, Nat.le_refl _, heap_alloc_new w0 _, Nat.le_refl _, Nat.zero_le _, rfl, rfl⟩⟩
    have rE := RdB.fr (S := nothing) rd ((Fr.refl _ w0).alloc (.cells #[] 5)) (fun _ _ _ h => h)
    have hapl : ([] : List Int).length + l.length ≤ 140737488355328 := by have := H7.out; simp; omega
    have hbw : w0.heap.size ≤ (w0.alloc (.cells #[] 5)).heap.size := by simp
    obtain ⟨ib, hib, hbz0, hbz1, hbz2⟩ := info_parts info_b
    have HB0 := Lib.hid B0
    clear rd B0
    go_upto_region 6 with (first
      | (at_builtin; refine wpList_append_b _ rfl (.tmp 18) (.tmp 19) _ rfl w0.heap.size 5 ib Tryd.underlying22 hib hbz0 hbz1 hbz2 _ [] rfl own0 _ _ _ _ _ l rfl rfl rE hapl hbw ?_; intro v1 w1 hown hg hat; have o1 : OwnB w1 w0.heap.size 5 v1 l := hown; have HBA := Lib.hid (((Below.refl w0.heap.size w0).alloc (Nat.le_refl _) (.cells #[] 5)).grown hg (by simp) (fun k hk => by have hk' : some w0.heap.size = some k := hk; injection hk' with hk'; omega)); obtain ⟨B1s, c1s, rfl, -, -⟩ := OwnB.slice o1; have HO := Lib.hid o1; clear hown hg hat own0 rE o1 hapl hbw))
    have B1 := Bl.trans HB0.out (Bl.low HBA.out HB0.out.size)
    have HSZ := Lib.hid HB0.out.size
    have T1 := HT.out.below B1
    clear HB0 HBA
    have CG := unframe_calls _ _ p _ l w1 T1 (SlB.of_own HO.out) (Nat.le_refl _) HBB.out (by have := HLL.out; omega)
    have CR := fun w' (X : SlB w' 0 w.heap.size (.slice a l.length cap) l) => runframe_calls 0 w.heap.size p _ l w' X HBB.out (by have := HLL.out; omega)
    generalize unE p l = E at *
    generalize unK p l = K at *
    generalize unB p l = R at *
    have HCG := Lib.hid CG
    have HCR := Lib.hid CR
    clear CG CR
    go_wp2_with fail
    refine HCG.out.mono ?_
    rintro e w2 ⟨B2, A2, c2, rfl, o2⟩
    have B3 := Bl.trans B1 (Bl.low B2 B1.size)
    have o3 := OwnB.fr HO.out (Fr.of_below (S := nothing) B2) (fun _ _ h => h)
    have HLT := Lib.hid (fun k h => OwnB.lt HO.out k h)
    clear HCG HO B2
    go_wp2_with fail
    refine (HCR.out _ (SlB.bl HXX.out B3 (Nat.le_refl _))).mono ?_
    rintro e w3 ⟨rfl, B4⟩
    have B5 := Bl.trans B3 (Bl.low B4 B3.size)
    have o5 := OwnB.fr o3 (Fr.of_below (S := nothing) B4) (fun _ _ h => h)
    have r5 := OwnB.fr o2 (Fr.of_below (S := nothing) B4) (fun _ _ h => h)
    clear HCR B3 B4 o3 o2 T1 B1
    go_wp2_with fail
    go_loopw [37] (fun i wr => ∃ (j : Nat) (xs : List Int), j ≤ l.length ∧ xs.length = l.length ∧ i = .int .i64 j ∧ OwnB wr w0.heap.size 5 (.slice B1s l.length c1s) xs ∧ OwnB wr w1.heap.size 5 (.slice A2 R.length c2) R ∧ Below w.heap.size w wr) (fun i _ => l.length - (intOf i).toNat)
    case atStart => exact ⟨0, l, Nat.zero_le _, rfl, rfl, o5, r5, B5⟩
    case round =>
      clear o5 r5 B5
      obtain ⟨j, xs, hj, hxl, rfl, o9, r9, B9⟩ := hrel
      by_cases hlt : j < l.length
      · have hjl : (j : Int) < l.length := by omega
        have hjb : (j : Int) ≤ 70000 := by have := H7.out; omega
        obtain ⟨ad, rfl, ⟨x, hcx⟩, hfx, hbx, hown, hst⟩ := own_at o9 j hlt
        replace hown := Lib.hid hown
        replace hst := Lib.hid hst
        replace hxl := Lib.hid hxl
        go_upto_region 12 with fail
        obtain ⟨xs', o9'⟩ := hst.out (bits .xor .u8 x 255)
        have FX : Fr (OfV (.slice (some ad) l.length c1s)) wr (wr.setCell (ad.add j) (.int .u8 (bits .xor .u8 x 255))) := (Fr.refl _ _).setCell (.inl (hown.out _ rfl)) _
        generalize wr.setCell (ad.add j) (.int .u8 (bits .xor .u8 x 255)) = wn at *
        have hxl' : xs'.length = l.length := by
          obtain ⟨A9, c9, e9, -, -⟩ := OwnB.slice o9'
          injection e9 with e91 e92 e93
          exact e92.symm
        have HR := Lib.hid (show OwnB wn w1.heap.size 5 (.slice A2 R.length c2) R ∧ Below w.heap.size w wn from
          ⟨OwnB.fr r9 FX (fun k h1 h2 => by have := HLT.out k h2; have := OwnB.ge r9 k h1; omega), Bl.trans B9 (Bl.of_fr FX B9.size (fun k h => by have := OwnB.ge o9 k h; have := HSZ.out; omega))⟩)
        replace hxl' := Lib.hid hxl'
        replace o9' := Lib.hid o9'
        clear FX hst hown hcx hfx r9 B9 o9
        go_wp2
        go_roundw
        case rel => exact ⟨j + 1, xs', by omega, hxl'.out, by go_num, o9'.out, HR.out⟩
        case measure => simp [intOf]; omega
      · have hjl : ¬ ((j : Nat) : Int) < l.length := by omega
        clear hlt hj
        have kx := slb_str (SlB.of_own r9)
        have HB9 := Lib.hid B9
        clear r9 B9 o9 hxl
        go_wp2
        go_ret
        exact ⟨by first | rfl | simp, HB9.out⟩
end Go.Proofs.YtdbndinnakkloaaDoor.DcepUnframes
