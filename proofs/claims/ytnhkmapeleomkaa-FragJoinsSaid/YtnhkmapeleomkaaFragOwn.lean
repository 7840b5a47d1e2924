/- Lists of pieces that a call makes itself; appends to them; stores into them. Conditions: each names its blocks and the bounds. -/
import Derived.Test.YtnhkmapeleomkaaFragLift
namespace Go.Proofs.Ytnhkmapeleomkaa.Frag
open Go.RowKit Go.Proofs.Ytnhkmapeleomkaa.Mem Go.Proofs.Ytnhkmapeleomkaa.Octet
set_option linter.unusedVariables false
set_option linter.unusedSimpArgs false
/-- A piece of a message. -/
structure Pc where
  kind : Int
  bg : Bool
  en : Bool
  ls : Bool
  st : Int
  mid : Int
  pp : Int
  fr : Int
  body : List Int
def pcs (p : Pc) (v : Value) : List Value := [.int .u8 p.kind, .bool p.bg, .bool p.en, .bool p.ls, .bool false, .int .u32 0, .int .u16 p.st, .int .u32 p.mid, .int .u32 p.pp, .int .u32 p.fr, .int .u32 0, .int .u32 0, .int .u16 0, .int .u16 0, .slice none 0 0, .slice none 0 0, .slice none 0 0, .slice none 0 0, v]
theorem pcs_len (p : Pc) (v : Value) : (pcs p v).length = 19 := rfl
theorem info_c : (Try.prog.info? 42).map (fun i => (i.zero, i.size, i.bytes)) = some (some (.agg #[.int .u8 0, .bool false, .bool false, .bool false, .bool false, .int .u32 0, .int .u16 0, .int .u32 0, .int .u32 0, .int .u32 0, .int .u32 0, .int .u32 0, .int .u16 0, .int .u16 0, .slice none 0 0, .slice none 0 0, .slice none 0 0, .slice none 0 0, .slice none 0 0]), 19, 160) := by kernel_rfl
def ccells (qs : List (Pc × Value)) : List Value := qs.flatMap fun q => pcs q.1 q.2
theorem ccells_len (qs : List (Pc × Value)) : (ccells qs).length = qs.length * 19 := by
  induction qs with
  | nil => rfl
  | cons q qs ih =>
    have e : ccells (q :: qs) = pcs q.1 q.2 ++ ccells qs := rfl
    rw [e, List.length_append, ih, pcs_len, List.length_cons]
    omega
theorem ccells_at (qs : List (Pc × Value)) (i j : Nat) (h : i < qs.length) (hj : j < 19) : (ccells qs)[i * 19 + j]? = (pcs qs[i].1 qs[i].2)[j]? := by
  induction qs generalizing i with
  | nil => simp at h
  | cons q qs ih =>
    have e : ccells (q :: qs) = pcs q.1 q.2 ++ ccells qs := rfl
    cases i with
    | zero => rw [e, List.getElem?_append_left (by rw [pcs_len]; omega)]; simp
    | succ i =>
      rw [e, List.getElem?_append_right (by rw [pcs_len]; omega), pcs_len, show (i + 1) * 19 + j - 19 = i * 19 + j by omega]
      simpa using ih i (by simpa using h)
theorem ccells_set (qs : List (Pc × Value)) (i j : Nat) (p : Pc) (u : Value) (h : i < qs.length) (hj : j < 19) (hp : pcs p qs[i].2 = (pcs qs[i].1 qs[i].2).set j u) :
    (ccells qs).set (i * 19 + j) u = ccells (qs.set i (p, qs[i].2)) := by
  induction qs generalizing i with
  | nil => simp at h
  | cons q qs ih =>
    have e : ∀ q qs, ccells (q :: qs) = pcs q.1 q.2 ++ ccells qs := fun _ _ => rfl
    cases i with
    | zero =>
      rw [e, List.set_append, if_pos (by rw [pcs_len]; omega)]
      simp only [List.getElem_cons_zero, List.set_cons_zero, Nat.zero_mul, Nat.zero_add] at hp ⊢
      rw [e, hp]
    | succ i =>
      rw [e, List.set_append, if_neg (by rw [pcs_len]; omega), pcs_len, show (i + 1) * 19 + j - 19 = i * 19 + j by omega]
      simp only [List.getElem_cons_succ, List.set_cons_succ] at hp ⊢
      rw [e, ih i (by simpa using h) hp]
/-- A list of pieces that the call made: its row, and each body's bytes. -/
def OwnCk (w : World) (base : Nat) (v : Value) (ps : List Pc) : Prop :=
  ∃ qs : List (Pc × Value), ps = qs.map Prod.fst ∧ w.ownsRow base 42 19 v qs.length (ccells qs) ∧ ∀ q ∈ qs, OwnB w base 5 q.2 q.1.body ∧ ∀ k, q.2.ownBlock = some k → v.ownBlock ≠ some k
theorem OwnCk.nil (w : World) (base : Nat) : OwnCk w base (.slice none 0 0) [] := ⟨[], rfl, World.ownsRow_nil _ _ _ _, fun q hq => by cases hq⟩
theorem crow_fr {S : Nat → Prop} {w w' : World} {base : Nat} {e : TypeId} {size : Nat} {v : Value} {n : Nat} {xs : List Value} (h : w.ownsRow base e size v n xs) (f : Fr S w w') (hs : ∀ k, v.ownBlock = some k → ¬ S k) : w'.ownsRow base e size v n xs := by
  rcases h.2 with h0 | ⟨g, cap, cur, rfl, hb, hg, rest⟩
  · exact ⟨h.1, .inl h0⟩
  · exact ⟨h.1, .inr ⟨g, cap, cur, rfl, hb, (f.block g (Array.getElem?_eq_some_iff.1 hg).1 (hs g rfl)).trans hg, rest⟩⟩
theorem OwnCk.fr {S : Nat → Prop} {w w' : World} {base : Nat} {v : Value} {ps : List Pc} (h : OwnCk w base v ps) (f : Fr S w w') (hs : ∀ k, base ≤ k → ¬ S k) : OwnCk w' base v ps := by
  obtain ⟨qs, rfl, h1, h2⟩ := h
  exact ⟨qs, rfl, crow_fr h1 f (fun k hk => hs k (h1.lt k hk).1), fun q hq => ⟨OwnB.fr (h2 q hq).1 f (fun k hk => hs k (OwnB.ge (h2 q hq).1 k hk)), (h2 q hq).2⟩⟩
/-- It lies on where no cells of it are touched. -/
theorem OwnCk.grown {w w' : World} {base : Nat} {v : Value} {ps : List Pc} {row : Option Nat} (h : OwnCk w base v ps) (hg : w.grownBy w' row) (hr : ∀ r, row = some r → ∃ o : Obj, w.heap[r]? = some o ∧ o.isCells = false) : OwnCk w' base v ps := by
  have f : Fr (fun k => row = some k) w w' := (Fr.refl _ w).grown hg (fun k hk => .inl hk)
  obtain ⟨qs, rfl, h1, h2⟩ := h
  refine ⟨qs, rfl, crow_fr h1 f (fun k hk hr' => ?_), fun q hq => ⟨OwnB.fr (h2 q hq).1 f (fun k hk hr' => ?_), (h2 q hq).2⟩⟩
  · obtain ⟨o, ho, hc⟩ := hr k hr'
    rcases h1.2 with ⟨rfl, _⟩ | ⟨g, cap, cur, rfl, hb, hg', _⟩
    · cases hk
    · have e : g = k := Option.some.inj hk
      subst e
      rw [hg'] at ho; cases ho; cases hc
  · obtain ⟨o, ho, hc⟩ := hr k hr'
    rcases (h2 q hq).1.2 with ⟨e, _⟩ | ⟨g, cap, cur, e, hb, hg', _⟩
    · rw [e] at hk; cases hk
    · rw [e] at hk
      have e : g = k := Option.some.inj hk
      subst e
      rw [hg'] at ho; cases ho; cases hc
theorem OwnCk.shape {w : World} {base : Nat} {v : Value} {ps : List Pc} (h : OwnCk w base v ps) : ∃ A cap, v = .slice A ps.length cap := by
  obtain ⟨qs, rfl, h1, h2⟩ := h
  rcases h1.2 with ⟨rfl, h0⟩ | ⟨g, cap, cur, rfl, _⟩
  · exact ⟨none, 0, by rw [List.length_map, h0]⟩
  · exact ⟨_, cap, by rw [List.length_map]⟩
theorem OwnCk.lt {w : World} {base : Nat} {v : Value} {ps : List Pc} (h : OwnCk w base v ps) (k : Nat) (hk : v.ownBlock = some k) : base ≤ k ∧ k < w.heap.size := by
  obtain ⟨qs, rfl, h1, h2⟩ := h
  exact h1.lt k hk
theorem OwnCk.split {w : World} {base : Nat} {v : Value} {ps : List Pc} (h : OwnCk w base v ps) : ∃ qs : List (Pc × Value), ps = qs.map Prod.fst ∧ qs.length = ps.length ∧ w.ownsRow base 42 19 v qs.length (ccells qs) ∧
    ∀ q ∈ qs, OwnB w base 5 q.2 q.1.body ∧ ∀ k, q.2.ownBlock = some k → v.ownBlock ≠ some k := by
  obtain ⟨qs, rfl, h1, h2⟩ := h
  exact ⟨qs, rfl, by simp, h1, h2⟩
theorem OwnCk.low {w : World} {base base' : Nat} {v : Value} {ps : List Pc} (h : OwnCk w base v ps) (hb : base' ≤ base) : OwnCk w base' v ps := by
  obtain ⟨qs, rfl, h1, h2⟩ := h
  refine ⟨qs, rfl, ?_, fun q hq => ⟨OwnB.low (h2 q hq).1 hb, (h2 q hq).2⟩⟩
  rcases h1.2 with h0 | ⟨g, cap, cur, rfl, hb', rest⟩
  · exact ⟨h1.1, .inl h0⟩
  · exact ⟨h1.1, .inr ⟨g, cap, cur, rfl, by omega, rest⟩⟩
/-- One piece more. -/
theorem OwnCk.more {w w' : World} {base : Nat} {v v' s : Value} {ps : List Pc} {p : Pc} {qs : List (Pc × Value)} (hps : ps = qs.map Prod.fst)
    (h2 : ∀ q ∈ qs, OwnB w base 5 q.2 q.1.body ∧ ∀ k, q.2.ownBlock = some k → v.ownBlock ≠ some k)
    (hs : OwnB w base 5 s p.body) (hne : ∀ k, s.ownBlock = some k → v.ownBlock ≠ some k)
    (hown : w'.ownsRow base 42 19 v' (qs.length + 1) (ccells qs ++ pcs p s)) (hg : w.grownBy w' v.ownBlock) (hat : v'.ownBlock = v.ownBlock ∨ v'.ownBlock = some w.heap.size) : OwnCk w' base v' (ps ++ [p]) := by
  have f : Fr (OfV v) w w' := (Fr.refl _ w).grown hg fun k hk => .inl hk
  refine ⟨qs ++ [(p, s)], by rw [hps]; simp, ?_, fun q hq => ?_⟩
  · have e : ccells (qs ++ [(p, s)]) = ccells qs ++ pcs p s := by simp [ccells]
    rw [e, List.length_append]
    exact hown
  · rcases List.mem_append.1 hq with hq | hq
    · obtain ⟨a1, a2⟩ := h2 q hq
      refine ⟨OwnB.fr a1 f (fun k hk => a2 k hk), fun k hk => ?_⟩
      rcases hat with e | e
      · rw [e]; exact a2 k hk
      · rw [e]; intro e2; injection e2 with e2; have := OwnB.lt a1 k hk; omega
    · simp at hq
      subst hq
      refine ⟨OwnB.fr hs f (fun k hk => hne k hk), fun k hk => ?_⟩
      rcases hat with e | e
      · rw [e]; exact hne k hk
      · rw [e]; intro e2; injection e2 with e2; have := OwnB.lt hs k hk; omega
/-- A cell of a piece: where it lies, what it holds, and the list behind a store into it. -/
theorem OwnCk.cell {w : World} {base : Nat} {A : Option Addr} {n cap : Nat} {ps : List Pc} (h : OwnCk w base (.slice A n cap) ps) (i j : Nat) (hi : i < ps.length) (hj : j < 19) :
    ∃ g s, A = some ⟨g, 0, none⟩ ∧ base ≤ g ∧ g < w.heap.size ∧ OwnB w base 5 s ps[i].body ∧ w.cell? ⟨g, i * 19 + j, none⟩ = (pcs ps[i] s)[j]? ∧ w.frozen? ⟨g, i * 19 + j, none⟩ = false ∧
      ∀ (p : Pc) (u : Value), p.body = ps[i].body → (∀ s, pcs p s = (pcs ps[i] s).set j u) → OwnCk (w.setCell ⟨g, i * 19 + j, none⟩ u) base (.slice A n cap) (ps.set i p) := by
  obtain ⟨qs, rfl, hq, h1, h2⟩ := h.split
  have hi' : i < qs.length := by simpa using hi
  rcases h1.2 with ⟨e, h0⟩ | ⟨g, cap', cur, e, hb, hg, rest⟩
  · omega
  · have e0 := e
    injection e with e1 e2 e3
    subst e1; subst e2; subst e3
    have hm := List.getElem_mem hi'
    refine ⟨g, qs[i].2, rfl, hb, (Array.getElem?_eq_some_iff.1 hg).1, by simpa using (h2 _ hm).1, ?_, h1.frozenAt _, fun p u hpb hp => ?_⟩
    · rw [h1.cellAt _ (by omega), ccells_at qs i j hi' hj]
      simp
    · have s := (h1.stored (i * 19 + j) u).1
      have hp' := hp qs[i].2
      simp only [List.getElem_map] at hp' hpb
      rw [ccells_set qs i j p u hi' hj hp'] at s
      have f : Fr (only g) w (w.setCell ⟨g, i * 19 + j, none⟩ u) := (Fr.refl (only g) w).set_only _ none u
      refine ⟨qs.set i (p, qs[i].2), ?_, ?_, fun q hq => ?_⟩
      · rw [List.map_set]
      · rw [List.length_set]; exact s
      · have key : ∀ q ∈ qs, OwnB (w.setCell ⟨g, i * 19 + j, none⟩ u) base 5 q.2 q.1.body ∧ ∀ k, q.2.ownBlock = some k → (Value.slice (some ⟨g, 0, none⟩) qs.length cap).ownBlock ≠ some k := fun q hq =>
          ⟨OwnB.fr (h2 q hq).1 f (fun k hk hg' => (h2 q hq).2 k hk (by have hg'' : k = g := hg'; rw [hg'']; rfl)), (h2 q hq).2⟩
        rcases List.mem_or_eq_of_mem_set hq with hq | rfl
        · exact key q hq
        · have := key _ hm
          exact ⟨by rw [hpb]; exact this.1, this.2⟩
theorem new_list (w : World) (l : List Value) (t : TypeId) : ∀ j u, l[j]? = some u → (w.alloc (.cells l.toArray t)).cell? ((⟨w.heap.size, 0, none⟩ : Addr).add j) = some u := by
  intro j u hu
  have h := (Blk.new w l.toArray t).cell j
  rw [show (⟨w.heap.size, 0, none⟩ : Addr).add j = ⟨w.heap.size, j, none⟩ by unfold Addr.add; split <;> simp_all, h]
  simpa using hu
/-- What keeps all but blocks of cells. -/
theorem keeps_fr {S : Nat → Prop} {w w' : World} (f : Fr S w w') (h : ∀ k, S k → ∀ o, w.heap[k]? = some o → o.isCells = true) : KeepsOthers w w' := by
  refine ⟨f.size, fun k o hk ho => ?_⟩
  by_cases hs : S k
  · have := h k hs o hk; rw [ho] at this; cases this
  · exact (f.block k (Array.getElem?_eq_some_iff.1 hk).1 hs).trans hk
section
variable {P : Program}
/-- append of one value of a struct's cells onto a row of the call's own. -/
theorem wpList_append_c (w : World) {ops : Array Oper} {rest : List Oper} {o : Oper} {a : Act} {Q : Exit → Act → World → Prop} (hgd : o.guard = none) (s x : Operand) (t : TypeId)
    (ho : o.op = .call { callee := .builtin .append, args := #[s, x], argTypes := #[t, t] })
    (base : Nat) (e : TypeId) (i : TypeInfo) (z : Value) (size bytes : Nat) (ht : P.underlying t = some (.slice e)) (hi : P.info? e = some i) (hz : i.zero = some z) (hsize : i.size = size) (hby : i.bytes = bytes) (hzs : z.cells.size = size) (hsz : 0 < size)
    (v : Value) (n : Nat) (xs : List Value) (hs : a.eval s = v) (hown : w.ownsRow base e size v n xs)
    (ad : Addr) (m c : Nat) (news : List Value) (hx : a.eval x = .slice (some ad) m c) (hl : news.length = m * size) (hnews : ∀ j u, news[j]? = some u → w.cell? (ad.add j) = some u) (h1 : ∀ u ∈ news, u.oneCell' = true)
    (h63 : n + m ≤ maxLen) (hbytes : (n + m) * bytes ≤ 140737488355328) (hbase : base ≤ w.heap.size)
    (h : ∀ v' w', w'.ownsRow base e size v' (n + m) (xs ++ news) → w.grownBy w' v.ownBlock → (v'.ownBlock = v.ownBlock ∨ v'.ownBlock = some w.heap.size) → wpList P ops Q rest (a.put o.dst v') w') : wpList P ops Q (o :: rest) a w := by
  refine wpList_plain hgd fun K hK => ?_
  obtain ⟨v', w', hrun, h2, h3, _, h4⟩ := run_append_own_at (P := P) w base t o.type e i z size bytes ht hi hz hsize hby hzs hsz v n xs hown ad m c news hl hnews h1 h63 hbytes hbase
  unfold Oper.wp execOp
  simp only [ho, resolve, invoke, builtin, Sem.run_bind, Sem.run_pure, Result.andThen_ok, List.map_toArray, List.map_cons, List.map_nil, hs, hx, hrun]
  exact hK _ _ (h v' w' h2 h3 h4)
/-- A store of a whole struct into its block. -/
theorem oper_store {o : Oper} {a : Act} {w : World} {K : Act → World → Prop} {Q : Exit → Act → World → Prop} {t : TypeId} {x v : Operand} {g : Nat} {cs0 cs : Array Value} (ho : o.op = .store t x v) (hx : a.eval x = .pointer (some ⟨g, 0, none⟩)) (hv : a.eval v = .agg cs)
    (hb : Blk w g t cs0) (hi : (P.info? t).map (·.size) = some cs.size) (hs : cs0.size = cs.size) (h1 : cs.all (·.oneCell') = true) (h : K (a.put o.dst undef) (w.setRow g cs)) : o.wp P a w K Q := by
  have hr := run_storeVar_row (P := P) w g t t cs0 cs hb hi hs h1
  unfold Oper.wp execOp
  simp only [ho, hx, hv, Instr.storeAt, Instr.sureAddr, Sem.run_bind, Sem.run_pure, Result.andThen_ok, hr]
  exact h
/-- A load of a whole struct out of its block. -/
theorem oper_load {o : Oper} {a : Act} {w : World} {K : Act → World → Prop} {Q : Exit → Act → World → Prop} {t : TypeId} {x : Operand} {g : Nat} {cs : Array Value} {d : TypeDesc} (ho : o.op = .load t x) (hx : a.eval x = .pointer (some ⟨g, 0, none⟩))
    (hb : Blk w g t cs) (hu : P.underlying t = some d) (hd : (match d with | .struct _ | .array _ _ => true | _ => false) = true) (hi : (P.info? t).map (·.size) = some cs.size) (h : K (a.put o.dst (.agg cs)) w) : o.wp P a w K Q := by
  have hr := run_loadVar_row (P := P) w g t t cs (0, 0) d hb hu hd hi
  unfold Oper.wp execOp
  simp only [ho, hx, Instr.loadAt, Instr.sureAddr, Sem.run_bind, Sem.run_pure, Result.andThen_ok, hr]
  exact h
theorem blk_row {w : World} {g : Nat} {t : TypeId} {cs0 : Array Value} (cs : Array Value) (hb : Blk w g t cs0) : Blk (w.setRow g cs) g t cs := by
  obtain ⟨hlt, hv⟩ := Array.getElem?_eq_some_iff.1 hb
  show (w.heap.modify g _)[g]? = _
  rw [Array.getElem?_eq_getElem (by rw [Array.size_modify]; exact hlt), Array.getElem_modify_self, hv]
theorem fr_row {w : World} (g : Nat) (cs : Array Value) : Fr (only g) w (w.setRow g cs) := by
  refine ⟨rfl, rfl, rfl, by simp [World.setRow], fun k hk hn => ?_⟩
  have hn' : ¬ g = k := fun e => hn e.symm
  show (w.heap.modify g _)[k]? = _
  rw [Array.getElem?_modify, if_neg hn']
end
end Go.Proofs.Ytnhkmapeleomkaa.Frag
