/- Steps of a round within the wide fence out of the plain ones. Plain facts. -/
import Derived.Test.YtnhkmapeleomkaaFragIt
import Derived.Test.YtnhkmapeleomkaaRegInv
import Derived.OrdersIn
import Derived.RangeFuncCalls
namespace Go.Proofs.Ytnhkmapeleomkaa.Reg
open Go
set_option linter.unusedVariables false
set_option linter.unusedSimpArgs false
variable {P : Program} {ops : Array Oper} {Q : Exit → Act → World → Prop} {md : Region.Mode}
theorem rows_in {n : Nat} {row : String} {args : Array Value} {w : World} {R : Value → World → Prop} (l : Nat) (h : Rows P row args w R) : RowsIn (Fence.wide.inRound l) n P row args w R :=
  fun c cs _ => let ⟨v, w', r, s⟩ := h c cs; ⟨v, w', r, stepsIn_wide.2 s⟩
theorem upon_in {n : Nat} {o : Oper} {a : Act} {K : Act → World → Prop} (l : Nat) : ∀ (r : Result Next), o.upon P a K Q r → o.uponIn (Fence.wide.inRound l) n P a K Q r
  | .ok (.value v) w', h => h
  | .ok .skip w', h => h
  | .ok (.defer d) w', h => h
  | .ok (.enter f args) w', h => ⟨fun e => by simp [Fence.wide] at e, CallsIn.inRound l (callsIn_wide.2 h)⟩
  | .ok (.row row args) w', h => ⟨fun e => by simp [Fence.wide] at e, rows_in l h⟩
  | .ok (.round _ _ _ _ _) w', h => h.elim
  | .halt (.panic v) w', h => h
theorem oper_in {n : Nat} {o : Oper} {a : Act} {w : World} {K : Act → World → Prop} (l : Nat) (hd : ∀ c, o.op ≠ .defer c) (h : o.wp P a w K Q) : o.wpIn (Fence.wide.inRound l) n P a w K Q := by
  refine ⟨fun _ _ => trivial, ?_⟩
  rw [Oper.semAt_eq _ _ _ hd]
  exact upon_in l _ h
/-- No operation of a region defers. -/
def calm (ops : Array Oper) : Bool := ops.all fun o => match o.op with | .defer _ => false | _ => true
theorem calm_of {i : Nat} {o : Oper} (h : calm ops = true) (ho : ops[i]? = some o) : ∀ c, o.op ≠ .defer c := by
  intro c e
  have := Array.all_eq_true_iff_forall_mem.1 h o (Array.mem_of_getElem? ho)
  rw [e] at this
  cases this
theorem wpAnyIn_inv {n : Nat} (l : Nat) (hc : calm ops = true) {I : Array Bool → Act → World → Prop}
    (hstep : ∀ i o listed a w, ops[i]? = some o → I listed a w → listed.getD i true = false → (∀ e ∈ o.after, Region.binds md e = true → listed.getD e.on false = true) →
      ∀ K : Act → World → Prop, (∀ a' w', I (listed.setIfInBounds i true) a' w' → K a' w') → if Region.wanted o (yielded ops a.tmps) = true then o.wp P a w K Q else K (a.put o.dst undef) w)
    (hdone : ∀ listed a w, I listed a w → Region.ready md ops listed = [] → Q .normal a w) :
    ∀ (fuel : Nat) (listed : Array Bool) (a : Act) (w : World), left listed ≤ fuel → I listed a w → wpAnyIn (Fence.wide.inRound l) n P md ops Q fuel listed a w := by
  intro fuel
  induction fuel with
  | zero =>
    intro listed a w hl hI
    have hr : Region.ready md ops listed = [] := by
      cases hr : Region.ready md ops listed with
      | nil => rfl
      | cons i rs =>
        have hi : i ∈ Region.ready md ops listed := by rw [hr]; simp
        have := left_set (mem_ready.1 hi).1
        omega
    exact ⟨hr, hdone _ _ _ hI hr⟩
  | succ fuel ih =>
    intro listed a w hl hI
    refine ⟨fun hr => hdone _ _ _ hI hr, fun i hi => ?_⟩
    obtain ⟨hun, o, ho, hdeps⟩ := mem_ready.1 hi
    have := left_set hun
    refine wpOpIn_step ho (fun K hK => ?_)
    have hs := hstep i o listed a w ho hI hun hdeps K (fun a' w' h => hK a' w' (ih _ a' w' (by omega) h))
    split
    · rename_i hw
      rw [if_pos hw] at hs
      exact oper_in l (calm_of hc ho) hs
    · rename_i hw
      rw [if_neg hw] at hs
      exact ⟨fun _ _ => trivial, hs⟩
theorem region_in {n id : Nat} (l : Nat) {a : Act} {w : World} (hm : P.follows .mixedOrders = true) (hc : calm ops = true) {I : Array Bool → Act → World → Prop}
    (hstep : ∀ i o listed a w, ops[i]? = some o → I listed a w → listed.getD i true = false → (∀ e ∈ o.after, Region.binds .any e = true → listed.getD e.on false = true) →
      ∀ K : Act → World → Prop, (∀ a' w', I (listed.setIfInBounds i true) a' w' → K a' w') → if Region.wanted o (yielded ops a.tmps) = true then o.wp P a w K Q else K (a.put o.dst undef) w)
    (hdone : ∀ listed a w, I listed a w → Region.ready .any ops listed = [] → Q .normal a w) (h0 : I (Array.replicate ops.size false) a { w with drawn := w.drawn + 1 }) : (Code.region id ops true).wpIn (Fence.wide.inRound l) n P Q a w := by
  refine wpIn_region_any hm (wpAnyIn_inv l hc hstep hdone _ _ _ _ ?_ h0)
  unfold left
  simp [Array.toList_replicate, List.count_replicate]
theorem list_in {n : Nat} (l : Nat) (hq : ¬ LetsOut Q) : ∀ (os : List Oper) (a : Act) (w : World), (∀ o ∈ os, ∀ c, o.op ≠ .defer c) → wpList P ops Q os a w → wpListIn (Fence.wide.inRound l) n P ops Q os a w
  | [], a, w, _, h => h
  | o :: os, a, w, hd, h => by
    refine wpListIn_step fun K hK => ?_
    have h' : if Region.wanted o (yielded ops a.tmps) = true then o.wp P a w (wpList P ops Q os) Q ∨ (o.asks P a w ∧ LetsOut Q) else wpList P ops Q os (a.put o.dst undef) w := h
    split
    · rename_i hw
      rw [if_pos hw] at h'
      rcases h' with h' | h'
      · exact oper_in l (hd o (by simp)) (Oper.wp_mono (fun a w h => hK a w (list_in l hq os a w (fun o ho => hd o (by simp [ho])) h)) h')
      · exact absurd h'.2 hq
    · rename_i hw
      rw [if_neg hw] at h'
      exact ⟨fun _ _ => trivial, hK _ _ (list_in l hq os _ w (fun o ho => hd o (by simp [ho])) h')⟩
/-- A region that keeps its order, within a round, by its plain walk. -/
theorem region_list_in {n id : Nat} (l : Nat) {a : Act} {w : World} {Post : Act → World → Prop} (os : List Oper) (hc : calm os.toArray = true) (h : wpList P os.toArray (fun e a w => e = .normal ∧ Post a w) os a w) :
    (Code.region id os.toArray false).wpIn (Fence.wide.inRound l) n P (fun e a w => e = .normal ∧ Post a w) a w :=
  wpIn_region_lit (list_in l (by rintro ⟨_, _, h, _⟩; cases h) os a w (fun o ho => by
    obtain ⟨i, hi, rfl⟩ := List.mem_iff_getElem.1 ho
    exact calm_of (i := i) hc (by simp [hi])) h)
end Go.Proofs.Ytnhkmapeleomkaa.Reg
