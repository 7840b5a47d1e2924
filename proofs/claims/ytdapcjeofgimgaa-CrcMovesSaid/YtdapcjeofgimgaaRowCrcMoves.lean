/- The row of flumelaw03.CrcMoves: true for every input. No conditions. -/
import Derived.Test.YtdapcjeofgimgaaRows
import Derived.Test.YtdapcjeofgimgaaCrcMoves
import Derived.Test.YtdapcjeofgimgaaArgs
import Derived.WalkKit
import Derived.ProofKit
import Derived.OpenShut
import Derived.ShutString
import Derived.ChangeOld
import Derived.Below
import Derived.SizedLaws
import Derived.Carry
import Derived.Laws.IdiomArrays
namespace Go.Proofs.Ytdapcjeofgimgaa.crcMoves
open Go.ChangeShapes Go.WideShapes Go.ChangeAt Go.RowKit Go.Proofs.Ytdapcjeofgimgaa
open Go.ChangeMaps (open_string shut_string)
set_option linter.unusedVariables false
theorem own : ownKnob Try.prog.godebug = none := by kernel_rfl
theorem list4_ (l : List Value) (h : (Array.mk l).size = 4) : ∃ c0 c1 c2 c3, l = [c0, c1, c2, c3] := by
  match l, h with
  | [c0, c1, c2, c3], _ => exact ⟨c0, c1, c2, c3, rfl⟩
theorem laidOut : laidOutB Try.prog = true := by kernel_rfl
set_option maxHeartbeats 2000000 in
set_option maxRecDepth 100000 in
theorem lifted (os : Os) (started : os.Started) (H : Type) (enc : TypeId × Value → H) :
    ReturnsInHanded {} Try.checked os 6 .any (Rows.crcMovesSpec.pre6 enc Try.prog Try.f6 Rows.crcMovesRow.domain false) (Rows.crcMovesSpec.post enc Try.prog Try.f6 false true false false) := by
  refine returnsInHanded_of_change_sized (C := Try.checked) own started (by kernel_rfl) Try.func6
    (ChangeSpec.witness6 (enc := enc) (C := Try.checked) false ⟨#[], #[.slice none 0 0, .int .i64 0, .agg #[.int .u8 0, .int .u8 0, .int .u8 0, .int .u8 0]], []⟩ 8 (by kernel_rfl) (by kernel_rfl) (by kernel_rfl) (by kernel_rfl)) ?_
  intro W base args ds gs before hval0 hW hcnd hsz0 _
  have hsz : (DataW.weightsEach Try.prog (Try.f6.params.toList ++ Rows.crcMovesSpec.plain.varTypes Try.prog) (ds ++ gs)).all (· ≤ reachBytes) = true := hsz0
  have hval : ∀ (j : Nat) t v, Try.f6.params[j]? = some t → args[j]? = some v → Value.okWide Try.prog W .any base t v := hval0
  have hW' := hW
  obtain ⟨p, q, hA0, hV, rfl, hfz, hnd⟩ := hW
  have hA : DataW.TrodAll enc Try.prog W 0 (fun _ => true) true Try.f6.params.toList args.toList ds p := hA0
  rw [Try.params6] at hA hval hsz
  obtain ⟨v0, vs0, d0, ds0, p0, q0, hargs, rfl, rfl, h0, r0⟩ := trodAll_cons hA
  obtain ⟨v1, vs1, d1, ds1, p1, q1, rfl, rfl, rfl, h1, r1⟩ := trodAll_cons r0
  obtain ⟨v2, vs2, d2, ds2, p2, q2, rfl, rfl, rfl, h2, r2⟩ := trodAll_cons r1
  obtain ⟨rfl, rfl, rfl⟩ := trodAll_nil r2
  obtain rfl : args = #[v0, v1, v2] := by cases args; simp_all
  obtain ⟨rfl, rfl⟩ := trodVars_none hV
  obtain ⟨a0, len0, cap0, rfl⟩ := okWide_slice Try.underlying22 (hval 0 22 v0 rfl rfl)
  have k0 := h0
  have lt0 : ∀ x ∈ p0, x.block < W.heap.size := by obtain ⟨m, hm⟩ := k0; exact DataW.trod_lt m _ _ _ hm
  have y0 : len0 * 1 ≤ 140737488351232 := Mem.sized_ints hsz (j := 0) (t := 22) rfl rfl Try.underlying22 Try.underlying5 (by kernel_rfl) (by kernel_rfl) h0
  obtain ⟨l0, rfl, hr0, hc0, hm0, hw0, hn0⟩ : ∃ l : List Int, len0 = l.length ∧ Mem.ReadsI W .u8 a0 l ∧ l.length ≤ cap0 ∧ cap0 ≤ maxLen ∧ (∀ x ∈ l, (Lit.int .u8 x).wf = true) ∧ (a0 = none → cap0 = 0) := by
    obtain ⟨fuel, hf⟩ := h0
    rcases open_ints Try.underlying22 Try.underlying5 (by kernel_rfl) hf with ⟨hcs, _⟩ | ⟨x, l, c, zs, hcs, _, hl, hm, hz, _, hcell, hwz⟩
    · simp [Value.cells] at hcs
      obtain ⟨rfl, rfl, rfl⟩ := hcs
      exact Mem.reads_of_row2 (zs := []) (.inl ⟨rfl, rfl, rfl, rfl⟩)
    · simp [Value.cells] at hcs
      obtain ⟨rfl, rfl, rfl⟩ := hcs
      exact Mem.reads_of_row2 (.inr ⟨_, rfl, hl, hm, by simpa using hz, hcell, hwz⟩)
  obtain ⟨a1, rfl, rfl, rfl, w1⟩ := open_int Try.underlying3 (hval 1 3 v1 rfl rfl) h1
  have k2 := h2
  have lt2 : ∀ x ∈ p2, x.block < W.heap.size := by obtain ⟨m, hm⟩ := k2; exact DataW.trod_lt m _ _ _ hm
  obtain ⟨cs2, rfl, hsz2_, _⟩ : ∃ cs, v2 = .agg cs ∧ cs.size = Try.prog.cellsOf 37 ∧ Row.okWide Try.prog W .any base 37 cs := by
    have := hval 2 37 v2 rfl rfl
    simpa [Value.okWide, Try.underlying37] using this
  rw [show Try.prog.cellsOf 37 = 4 from by kernel_rfl] at hsz2_
  obtain ⟨ls2⟩ := cs2
  obtain ⟨c2_0, c2_1, c2_2, c2_3, rfl⟩ := list4_ ls2 hsz2_
  obtain ⟨fuel2, hf2⟩ := h2
  obtain ⟨y2_0, y2_1, y2_2, y2_3, m2, hx2, hy2_0, hy2_1, hy2_2, hy2_3⟩ := trod_array4 Try.underlying37 (by kernel_rfl) hf2
  obtain ⟨x2_0, e2_0, -, w2_0⟩ := DataW.trod_int Try.underlying5 hy2_0
  obtain ⟨x2_1, e2_1, -, w2_1⟩ := DataW.trod_int Try.underlying5 hy2_1
  obtain ⟨x2_2, e2_2, -, w2_2⟩ := DataW.trod_int Try.underlying5 hy2_2
  obtain ⟨x2_3, e2_3, -, w2_3⟩ := DataW.trod_int Try.underlying5 hy2_3
  simp at e2_0 e2_1 e2_2 e2_3
  subst e2_0
  subst e2_1
  subst e2_2
  subst e2_3
  clear hA0 hval0 hsz0 hsz
  refine (CrcMoves.walk a0 cap0 l0 a1 x2_0 x2_1 x2_2 x2_3 W hr0 hc0 hm0 y0 hw0 hn0 w1 w2_0 w2_1 w2_2 w2_3).mono fun e W' ⟨he, bel⟩ => ?_
  subst he
  exact ⟨_, rfl, _, _, _, [], _, [], hW', trodAll_mk1 (shut_bool Try.underlying4 _), (trodAll_cons_mk (Below.trod laidOut (by kernel_rfl) (of_decide_eq_true (by kernel_rfl)) k0 bel lt0) (trodAll_cons_mk (shut_int Try.underlying3 w1) (trodAll_cons_mk (Below.trod laidOut (by kernel_rfl) (of_decide_eq_true (by kernel_rfl)) k2 bel lt2) trodAll_mk0))), rfl, bel.frame _, fun h => by cases h⟩
theorem over : Rows.crcMovesRow.holds Try.pinned (OpenSpec.ofChange Rows.crcMovesSpec) :=
  OpenClaim.holds_of_wide 6 Try.f6 rfl rfl rfl rfl rfl rfl rfl ⟨rfl, rfl, rfl, rfl, rfl⟩ rfl rfl rfl rfl rfl (by kernel_rfl) Try.func6 (by kernel_rfl)
    (of_decide_eq_true (by kernel_rfl)) (by unfold Func.isWrapper; first | (rw [if_pos (by decide +kernel)]; kernel_rfl) | (rw [if_neg (by decide +kernel)]; exact ⟨rfl, rfl⟩))
    (fun os started H enc _ => lifted os started H enc)
theorem proved : Rows.CrcMovesSaid := over
end Go.Proofs.Ytdapcjeofgimgaa.crcMoves
namespace Go.Proofs.Ytdapcjeofgimgaa
/-- The row, under a short name, for the claim. -/
theorem crcMoves_holds : Rows.CrcMovesSaid := crcMoves.proved
end Go.Proofs.Ytdapcjeofgimgaa
