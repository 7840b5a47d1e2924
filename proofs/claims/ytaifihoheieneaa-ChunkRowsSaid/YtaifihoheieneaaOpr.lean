/- A struct loaded and stored whole; results out of a block. Plain facts. -/
import Derived.Test.YtaifihoheieneaaSl
import Derived.Laws.ResultCell
namespace Go.Proofs.Ytaifihoheieneaa.Mem
open Go.RowKit
set_option linter.unusedVariables false
set_option linter.unusedSimpArgs false
section
variable {P : Program}
/-- A store of a whole struct into its block. -/
theorem oper_store {o : Oper} {a : Act} {w : World} {K : Act → World → Prop} {Q : Exit → Act → World → Prop} {t : TypeId} {x v : Operand} {g : Nat} {cs0 cs : Array Value} (ho : o.op = .store t x v) (hx : a.eval x = .pointer (some ⟨g, 0, none⟩)) (hv : a.eval v = .agg cs)
    (hb : Blk w g t cs0) (hi : (P.info? t).map (·.size) = some cs.size) (hs : cs0.size = cs.size) (h1 : cs.all (·.oneCell') = true) (h : K (a.put o.dst undef) (w.setRow g cs)) : o.wp P a w K Q := by
  have hr := run_storeVar_row (P := P) w g t t cs0 cs hb hi hs h1
  unfold Oper.wp execOp
  simp only [ho, hx, hv, Instr.storeAt, Instr.sureAddr, Sem.run_bind, Sem.run_pure, Result.andThen_ok, hr]
  exact h
/-- A load of a whole struct out of its block. -/
theorem oper_load {o : Oper} {a : Act} {w : World} {K : Act → World → Prop} {Q : Exit → Act → World → Prop} {t : TypeId} {x : Operand} {g : Nat} {cs : Array Value} {d : TypeDesc} (ho : o.op = .load t x) (hx : a.eval x = .pointer (some ⟨g, 0, none⟩))
    (hb : Blk w g t cs) (hu : P.underlying t = some d) (hd : (match d with | .struct _ | .array _ _ => true | _ => false) = true) (hi : (P.info? t).map (·.size) = some cs.size) (h : K (a.put o.dst (.agg cs)) w) : o.wp P a w K Q := by
  have hr := run_loadVar_row (P := P) w g t t cs (0, 0) d hb hu hd hi
  unfold Oper.wp execOp
  simp only [ho, hx, Instr.loadAt, Instr.sureAddr, Sem.run_bind, Sem.run_pure, Result.andThen_ok, hr]
  exact h
theorem blk_row {w : World} {g : Nat} {t : TypeId} {cs0 : Array Value} (cs : Array Value) (hb : Blk w g t cs0) : Blk (w.setRow g cs) g t cs := by
  obtain ⟨hlt, hv⟩ := Array.getElem?_eq_some_iff.1 hb
  show (w.heap.modify g _)[g]? = _
  rw [Array.getElem?_eq_getElem (by rw [Array.size_modify]; exact hlt), Array.getElem_modify_self, hv]
theorem fr_row {w : World} (g : Nat) (cs : Array Value) : Fr (only g) w (w.setRow g cs) := by
  refine ⟨rfl, rfl, rfl, by simp [World.setRow], fun k hk hn => ?_⟩
  have hn' : ¬ g = k := fun e => hn e.symm
  show (w.heap.modify g _)[k]? = _
  rw [Array.getElem?_modify, if_neg hn']
theorem results_blk {fn : Func} {p u : Tmp} {ty : TypeId} (h : fn.results = #[.cell p ty, .tmp u]) (tmps : Array Value) {w : World} {g : Nat} {t : TypeId} {cs : Array Value} {d : TypeDesc}
    (hp : tmps.getD p undef = .pointer (some ⟨g, 0, none⟩)) (hb : Blk w g t cs) (hu : P.underlying ty = some d) (hd : (match d with | .struct _ | .array _ _ => true | _ => false) = true) (hi : (P.info? ty).map (·.size) = some cs.size) :
    (results fn tmps).run P w = .ok (.tuple #[.agg cs, tmps.getD u undef]) w := by
  rw [results_cell_tmp h, hp]
  simp [asAddr, run_loadVar_row (P := P) w g t ty cs (0, 0) d hb hu hd hi]
end
end Go.Proofs.Ytaifihoheieneaa.Mem
