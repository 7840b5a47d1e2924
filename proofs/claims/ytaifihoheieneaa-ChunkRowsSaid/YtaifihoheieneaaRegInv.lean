/- A region that draws its order, by one relation that each of its operations keeps. Plain facts. -/
import Derived.RegionTactic
namespace Go.Proofs.Ytaifihoheieneaa.Reg
open Go
set_option linter.unusedVariables false
variable {P : Program} {ops : Array Oper} {Q : Exit → Act → World → Prop} {md : Region.Mode}
/-- Each edge that binds goes to an operation of a smaller number. -/
def topo (md : Region.Mode) (ops : Array Oper) : Bool := (List.range ops.size).all fun i => ((ops[i]?).map fun o => o.after.all fun e => !Region.binds md e || decide (e.on < i)).getD true
theorem all_of_done (ht : topo md ops = true) {listed : Array Bool} (hs : listed.size = ops.size) (hr : Region.ready md ops listed = []) : ∀ i, i < ops.size → listed.getD i false = true := by
  intro i
  induction i using Nat.strongRecOn with
  | _ i ih =>
    intro hi
    have hn : i ∉ Region.ready md ops listed := by rw [hr]; simp
    rw [mem_ready] at hn
    have ho : ops[i]? = some ops[i] := Array.getElem?_eq_getElem hi
    have hlt : i < listed.size := by omega
    have e1 : ∀ d, listed.getD i d = listed[i] := fun d => by simp [hlt]
    cases hb : listed[i] with
    | true => rw [e1, hb]
    | false =>
      exfalso
      apply hn
      refine ⟨by rw [e1, hb], ops[i], ho, fun e he hbd => ?_⟩
      have h1 := List.all_eq_true.1 ht i (List.mem_range.2 hi)
      rw [ho] at h1
      have h2 := Array.all_eq_true_iff_forall_mem.1 h1 e he
      simp only [hbd, Bool.not_true, Bool.false_or, decide_eq_true_eq] at h2
      exact ih e.on h2 (by omega)
def left (listed : Array Bool) : Nat := listed.toList.count false
theorem count_set : ∀ (l : List Bool) (i : Nat), l[i]? = some false → (l.set i true).count false + 1 = l.count false
  | [], i, h => by simp at h
  | x :: l, 0, h => by simp at h; subst h; simp
  | x :: l, i + 1, h => by
    have := count_set l i (by simpa using h)
    rw [List.set_cons_succ, List.count_cons, List.count_cons]
    omega
theorem left_set {listed : Array Bool} {i : Nat} (h : listed.getD i true = false) : left (listed.setIfInBounds i true) + 1 = left listed := by
  have hi : i < listed.size := by
    rcases Nat.lt_or_ge i listed.size with h' | h'
    · exact h'
    · simp [Array.getElem?_eq_none h'] at h
  unfold left
  rw [Array.toList_setIfInBounds]
  refine count_set _ _ ?_
  rw [Array.getElem?_toList, Array.getElem?_eq_getElem hi]
  simpa [hi] using h
theorem wpAny_inv {I : Array Bool → Act → World → Prop}
    (hstep : ∀ i o listed a w, ops[i]? = some o → I listed a w → listed.getD i true = false → (∀ e ∈ o.after, Region.binds md e = true → listed.getD e.on false = true) →
      ∀ K : Act → World → Prop, (∀ a' w', I (listed.setIfInBounds i true) a' w' → K a' w') → if Region.wanted o (yielded ops a.tmps) = true then o.wp P a w K Q else K (a.put o.dst undef) w)
    (hdone : ∀ listed a w, I listed a w → Region.ready md ops listed = [] → Q .normal a w) :
    ∀ (fuel : Nat) (listed : Array Bool) (a : Act) (w : World), left listed ≤ fuel → I listed a w → wpAny P md ops Q fuel listed a w := by
  intro fuel
  induction fuel with
  | zero =>
    intro listed a w hl hI
    have hr : Region.ready md ops listed = [] := by
      cases hr : Region.ready md ops listed with
      | nil => rfl
      | cons i rs =>
        have hi : i ∈ Region.ready md ops listed := by rw [hr]; simp
        have := left_set (mem_ready.1 hi).1
        omega
    exact ⟨hr, hdone _ _ _ hI hr⟩
  | succ fuel ih =>
    intro listed a w hl hI
    refine ⟨fun hr => hdone _ _ _ hI hr, fun i hi => ?_⟩
    obtain ⟨hun, o, ho, hdeps⟩ := mem_ready.1 hi
    have := left_set hun
    exact wpOp_step ho (fun K hK => hstep i o listed a w ho hI hun hdeps K (fun a' w' h => hK a' w' (ih _ a' w' (by omega) h)))
end Go.Proofs.Ytaifihoheieneaa.Reg
