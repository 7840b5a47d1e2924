/- Lists of parameters that a call makes itself; appends to them. Conditions: each names its blocks and the bounds. -/
import Derived.Test.YtaifihoheieneaaPrmGo
namespace Go.Proofs.Ytaifihoheieneaa.Prm
open Go.RowKit Go.Proofs.Ytaifihoheieneaa.Mem Go.Proofs.Ytaifihoheieneaa.Octet
set_option linter.unusedVariables false
set_option linter.unusedSimpArgs false
theorem info_p : (Try.prog.info? 57).map (fun i => (i.zero, i.size, i.bytes)) = some (some (.agg #[.int .u16 0, .slice none 0 0]), 2, 32) := by kernel_rfl
def pcells (qs : List (Pm × Value)) : List Value := qs.flatMap fun q => [.int .u16 q.1.1, q.2]
theorem pcells_len (qs : List (Pm × Value)) : (pcells qs).length = qs.length * 2 := by
  induction qs with
  | nil => rfl
  | cons q qs ih =>
    simp only [pcells, List.flatMap_cons, List.length_append] at ih ⊢
    rw [ih]
    simp
    omega
theorem pcells_at (qs : List (Pm × Value)) (i : Nat) (h : i < qs.length) : (pcells qs)[i * 2]? = some (.int .u16 qs[i].1.1) ∧ (pcells qs)[i * 2 + 1]? = some qs[i].2 := by
  induction qs generalizing i with
  | nil => simp at h
  | cons q qs ih =>
    have e : pcells (q :: qs) = .int .u16 q.1.1 :: q.2 :: pcells qs := rfl
    cases i with
    | zero => rw [e]; exact ⟨rfl, rfl⟩
    | succ i =>
      have := ih i (by simpa using h)
      rw [e]
      constructor
      · rw [show (i + 1) * 2 = i * 2 + 2 by omega]
        simpa using this.1
      · rw [show (i + 1) * 2 + 1 = i * 2 + 1 + 2 by omega]
        simpa using this.2
/-- A list of parameters that the call made: its row, and each value's bytes. -/
def OwnPm (w : World) (base : Nat) (v : Value) (ps : List Pm) : Prop :=
  ∃ qs : List (Pm × Value), ps = qs.map Prod.fst ∧ w.ownsRow base 57 2 v qs.length (pcells qs) ∧ ∀ q ∈ qs, OwnB w base 5 q.2 q.1.2 ∧ ∀ k, q.2.ownBlock = some k → v.ownBlock ≠ some k
theorem OwnPm.nil (w : World) (base : Nat) : OwnPm w base (.slice none 0 0) [] := ⟨[], rfl, World.ownsRow_nil _ _ _ _, fun q hq => by cases hq⟩
theorem row_fr {S : Nat → Prop} {w w' : World} {base : Nat} {e : TypeId} {size : Nat} {v : Value} {n : Nat} {xs : List Value} (h : w.ownsRow base e size v n xs) (f : Fr S w w') (hs : ∀ k, v.ownBlock = some k → ¬ S k) : w'.ownsRow base e size v n xs := by
  rcases h.2 with h0 | ⟨g, cap, cur, rfl, hb, hg, rest⟩
  · exact ⟨h.1, .inl h0⟩
  · exact ⟨h.1, .inr ⟨g, cap, cur, rfl, hb, (f.block g (Array.getElem?_eq_some_iff.1 hg).1 (hs g rfl)).trans hg, rest⟩⟩
theorem OwnPm.fr {S : Nat → Prop} {w w' : World} {base : Nat} {v : Value} {ps : List Pm} (h : OwnPm w base v ps) (f : Fr S w w') (hs : ∀ k, base ≤ k → ¬ S k) : OwnPm w' base v ps := by
  obtain ⟨qs, rfl, h1, h2⟩ := h
  exact ⟨qs, rfl, row_fr h1 f (fun k hk => hs k (h1.lt k hk).1), fun q hq => ⟨OwnB.fr (h2 q hq).1 f (fun k hk => hs k (OwnB.ge (h2 q hq).1 k hk)), (h2 q hq).2⟩⟩
theorem OwnPm.shape {w : World} {base : Nat} {v : Value} {ps : List Pm} (h : OwnPm w base v ps) : ∃ A cap, v = .slice A ps.length cap := by
  obtain ⟨qs, rfl, h1, h2⟩ := h
  rcases h1.2 with ⟨rfl, h0⟩ | ⟨g, cap, cur, rfl, _⟩
  · exact ⟨none, 0, by rw [List.length_map, h0]⟩
  · exact ⟨_, cap, by rw [List.length_map]⟩
theorem OwnPm.lt {w : World} {base : Nat} {v : Value} {ps : List Pm} (h : OwnPm w base v ps) (k : Nat) (hk : v.ownBlock = some k) : base ≤ k ∧ k < w.heap.size := by
  obtain ⟨qs, rfl, h1, h2⟩ := h
  exact h1.lt k hk
theorem OwnPm.pms {w : World} {base : Nat} {v : Value} {ps : List Pm} (h : OwnPm w base v ps) : PmS w base w.heap.size v ps := by
  obtain ⟨qs, rfl, h1, h2⟩ := h
  have hsh := OwnPm.shape ⟨qs, rfl, h1, h2⟩
  obtain ⟨A, cap, rfl⟩ := hsh
  refine ⟨A, cap, rfl, fun i hi => ?_⟩
  have hi' : i < qs.length := by simpa using hi
  rcases h1.2 with ⟨e, h0⟩ | ⟨g, cap', cur, e, hb, hg, hn, hm, hsz, ht⟩
  · omega
  · injection e with e1 e2 e3
    subst e1; subst e3
    have hc := h1.cells (g := g) rfl
    have hp := pcells_at qs i hi'
    refine ⟨_, qs[i].2, rfl, hb, (Array.getElem?_eq_some_iff.1 hg).1, ?_, ?_, ?_⟩
    · have := hc (i * 2) _ hp.1
      simpa using this
    · rw [add_add']
      have := hc (i * 2 + 1) _ hp.2
      simpa using this
    · have := SlB.of_own (h2 _ (List.getElem_mem hi')).1
      simpa using this
/-- One parameter more. -/
theorem OwnPm.more {w w' : World} {base : Nat} {v v' s : Value} {ps : List Pm} {kk : Int} {xs : List Int} {qs : List (Pm × Value)} (hps : ps = qs.map Prod.fst)
    (h2 : ∀ q ∈ qs, OwnB w base 5 q.2 q.1.2 ∧ ∀ k, q.2.ownBlock = some k → v.ownBlock ≠ some k)
    (hs : OwnB w base 5 s xs) (hne : ∀ k, s.ownBlock = some k → v.ownBlock ≠ some k)
    (hown : w'.ownsRow base 57 2 v' (qs.length + 1) (pcells qs ++ [.int .u16 kk, s])) (hg : w.grownBy w' v.ownBlock) (hat : v'.ownBlock = v.ownBlock ∨ v'.ownBlock = some w.heap.size) : OwnPm w' base v' (ps ++ [(kk, xs)]) := by
  have f : Fr (OfV v) w w' := (Fr.refl _ w).grown hg fun k hk => .inl hk
  refine ⟨qs ++ [((kk, xs), s)], by rw [hps]; simp, ?_, fun q hq => ?_⟩
  · have e : pcells (qs ++ [((kk, xs), s)]) = pcells qs ++ [.int .u16 kk, s] := by simp [pcells]
    rw [e, List.length_append]
    exact hown
  · rcases List.mem_append.1 hq with hq | hq
    · obtain ⟨a1, a2⟩ := h2 q hq
      refine ⟨OwnB.fr a1 f (fun k hk => a2 k hk), fun k hk => ?_⟩
      rcases hat with e | e
      · rw [e]; exact a2 k hk
      · rw [e]; intro e2; injection e2 with e2; have := OwnB.lt a1 k hk; omega
    · simp at hq
      subst hq
      refine ⟨OwnB.fr hs f (fun k hk => hne k hk), fun k hk => ?_⟩
      rcases hat with e | e
      · rw [e]; exact hne k hk
      · rw [e]; intro e2; injection e2 with e2; have := OwnB.lt hs k hk; omega
section
variable {P : Program} (w : World)
/-- append of one value of a struct's cells onto a row of the call's own. -/
theorem wpList_append_c {ops : Array Oper} {rest : List Oper} {o : Oper} {a : Act} {Q : Exit → Act → World → Prop} (hgd : o.guard = none) (s x : Operand) (t : TypeId)
    (ho : o.op = .call { callee := .builtin .append, args := #[s, x], argTypes := #[t, t] })
    (base : Nat) (e : TypeId) (i : TypeInfo) (z : Value) (size bytes : Nat) (ht : P.underlying t = some (.slice e)) (hi : P.info? e = some i) (hz : i.zero = some z) (hsize : i.size = size) (hby : i.bytes = bytes) (hzs : z.cells.size = size) (hsz : 0 < size)
    (v : Value) (n : Nat) (xs : List Value) (hs : a.eval s = v) (hown : w.ownsRow base e size v n xs)
    (ad : Addr) (m c : Nat) (news : List Value) (hx : a.eval x = .slice (some ad) m c) (hl : news.length = m * size) (hnews : ∀ j u, news[j]? = some u → w.cell? (ad.add j) = some u) (h1 : ∀ u ∈ news, u.oneCell' = true)
    (h63 : n + m ≤ maxLen) (hbytes : (n + m) * bytes ≤ 140737488355328) (hbase : base ≤ w.heap.size)
    (h : ∀ v' w', w'.ownsRow base e size v' (n + m) (xs ++ news) → w.grownBy w' v.ownBlock → (v'.ownBlock = v.ownBlock ∨ v'.ownBlock = some w.heap.size) → wpList P ops Q rest (a.put o.dst v') w') : wpList P ops Q (o :: rest) a w := by
  refine wpList_plain hgd fun K hK => ?_
  obtain ⟨v', w', hrun, h2, h3, _, h4⟩ := run_append_own_at (P := P) w base t o.type e i z size bytes ht hi hz hsize hby hzs hsz v n xs hown ad m c news hl hnews h1 h63 hbytes hbase
  unfold Oper.wp execOp
  simp only [ho, resolve, invoke, builtin, Sem.run_bind, Sem.run_pure, Result.andThen_ok, List.map_toArray, List.map_cons, List.map_nil, hs, hx, hrun]
  exact hK _ _ (h v' w' h2 h3 h4)
end
end Go.Proofs.Ytaifihoheieneaa.Prm
