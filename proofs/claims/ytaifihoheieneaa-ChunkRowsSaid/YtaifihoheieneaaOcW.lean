/- Contracts of octet.Writer. Conditions: each names its blocks and the bounds. -/
import Derived.Test.YtaifihoheieneaaOcNum
import Derived.Test.YtaifihoheieneaaWZeros
import Derived.Deep.RegionLaw
import Derived.Lib.AppendZeros
namespace Go.Proofs.YtaifihoheieneaaW
end Go.Proofs.YtaifihoheieneaaW
namespace Go.Proofs.Ytaifihoheieneaa.Mem
open Go.RowKit
set_option linter.unusedVariables false
end Go.Proofs.Ytaifihoheieneaa.Mem
namespace Go.Proofs.Ytaifihoheieneaa.Octet
open Go.RowKit Go.Proofs.Ytaifihoheieneaa.Mem Go.Proofs.YtaifihoheieneaaW
set_option linter.unusedVariables false
set_option linter.unusedSimpArgs false

/-- A writer at block g: its one field, a row of its own. -/
def Wtr (w : World) (g : Nat) (v : Value) (bs : List Int) : Prop := Blk w g 60 #[v] ∧ OwnB w 0 5 v bs
/-- What a writer's method may change. -/
def WS (g : Nat) (v : Value) : Nat → Prop := fun k => k = g ∨ v.ownBlock = some k
theorem Wtr.fr {w w' : World} {g : Nat} {v : Value} {bs : List Int} {S : Nat → Prop} (h : Wtr w g v bs) (f : Fr S w w') (hg : ¬ S g) (hs : ∀ k, v.ownBlock = some k → ¬ S k) : Wtr w' g v bs :=
  ⟨h.1.fr f hg, h.2.fr f hs⟩

def PutP (w : World) (g : Nat) (v : Value) (bs xs : List Int) (e : Ending) (w' : World) : Prop :=
  e = .returned (.tuple #[]) ∧ ∃ v', Wtr w' g v' (bs ++ xs) ∧ At w w' v v' ∧ Fr (WS g v) w w'
/-- A store of the new row into the writer's field. -/
theorem put_end {w w1 : World} {g : Nat} {v v1 : Value} {bs : List Int} (h : Wtr w g v bs) (B : Below w.heap.size w w1 ∨ True) {zs : List Int} (own : OwnB w1 0 5 v1 zs) (f : Fr (WS g v) w w1) (hat : At w w1 v v1) (hb : Blk w1 g 60 #[v]) :
    ∃ v', Wtr (w1.setCell ⟨g, 0, none⟩ v1) g v' zs ∧ At w (w1.setCell ⟨g, 0, none⟩ v1) v v' ∧ Fr (WS g v) w (w1.setCell ⟨g, 0, none⟩ v1) := by
  have hne := own.ne hb (by decide)
  refine ⟨v1, ⟨(hb.set 0 v1).cast (by simp), own.fr ((Fr.refl (only g) w1).set_only 0 none v1) (fun k hk e => hne (by have e' : k = g := e; rw [← e']; exact hk))⟩, ?_, f.setCell (p := ⟨g, 0, none⟩) (.inl (.inl rfl)) v1⟩
  rcases hat with hat | ⟨b, h1, h2, h3⟩
  · exact .inl hat
  · exact .inr ⟨b, h1, h2, by simpa [World.setCell] using h3⟩

theorem put_mid (g : Nat) (v v' : Value) (bs zs : List Int) (w w' : World) (h : Wtr w g v bs) (hown : w'.ownsRow 0 5 1 v' zs.length (byts zs)) (hg : w.grownBy w' v.ownBlock)
    (hat : v'.ownBlock = v.ownBlock ∨ v'.ownBlock = some w.heap.size) :
    Blk w' g 60 #[v] ∧ OwnB w' 0 5 v' zs ∧ Fr (WS g v) w w' ∧ At w w' v v' ∧ ∃ A cap, v' = .slice A zs.length cap := by
  have hne := OwnB.ne (e := 5) h.2 h.1 (by decide)
  obtain ⟨A, cap, e, _, _⟩ := OwnB.slice (e := 5) hown
  refine ⟨h.1.fr (S := fun k => v.ownBlock = some k) ((Fr.refl _ w).grown hg fun k hk => .inl hk) (fun hk => hne hk), hown, (Fr.refl _ w).grown hg fun k hk => .inl (.inr hk), ?_, A, cap, e⟩
  rcases hat with e | e
  · exact .inl e
  · exact .inr ⟨_, e, Nat.le_refl _, OwnB.lt (e := 5) hown _ e⟩

set_option maxHeartbeats 1000000 in
theorem put_calls (g lo hi : Nat) (v x : Value) (bs xs : List Int) (w : World) (h : Wtr w g v bs) (hx : SlB w lo hi x xs) (hl : bs.length + xs.length ≤ 140737488355328) :
    Calls Try.prog 28 #[.pointer (some ⟨g, 0, none⟩), x] w (PutP w g v bs xs) := by
  obtain ⟨A, cap, rfl, h1, h2, h3, h4⟩ := hx
  obtain ⟨i0, hi0, hz0, hz1, hz2⟩ := info_parts info_b
  have hb := h.1
  have own := h.2
  have c0 := hb.cell 0
  have f0 := hb.frozen 0
  simp at c0
  have huw := Try.underlying60
  clear h3
  go_enter Try.func28, Try.ntmps28
  have hlt := hb.lt
  have hne := OwnB.ne (e := 5) own hb (by decide)
  go_wp2_with (at_builtin; refine wpList_append_b _ rfl (.tmp 8) (.tmp 9) _ rfl 0 5 i0 Try.underlying29 hi0 hz0 hz1 hz2 v bs rfl own lo hi A _ cap xs rfl rfl h4 hl (Nat.zero_le _) ?_; intro v' w' hown hg hat; obtain ⟨hb', own', f, hat', A', cap', ev⟩ := put_mid g v v' bs _ w w' h hown hg hat; clear hown hg hat; subst ev; have c1 := hb'.cell 0; have f1 := hb'.frozen 0; have l1 := hb'.lt; simp at c1)
  have fin := put_end h (.inr trivial) own' f hat' hb'
  rw [List.length_append] at fin
  first | go_end0 | ((try simp only [Exit.inBlock, Exit.then]); refine bodyPost_ret (results_none rfl _ _ _) rfl ?_)
  exact ⟨rfl, fin⟩

/-- Behind a literal of bytes. -/
theorem lit_own {g : Nat} {v : Value} {bs ys : List Int} {w : World} (h : Wtr w g v bs) (cs : Array Value) (hcs : ∀ i (hi : i < ys.length), cs[i]? = some (.int .u8 ys[i])) :
    Wtr (w.alloc (.cells cs 5 (0, 0))) g v bs ∧ RdB (w.alloc (.cells cs 5 (0, 0))) 0 (w.heap.size + 1) (some ⟨w.heap.size, 0, none⟩) ys := by
  refine ⟨h.fr (S := nothing) ((Fr.refl _ w).alloc _) (fun h => h) (fun _ _ h => h), .inr ⟨_, rfl, Nat.zero_le _, Nat.lt_succ_self _, fun i hi => ?_⟩⟩
  have hc := (Blk.new w cs 5).cell i
  rw [hcs i hi] at hc
  rw [← hc]
  by_cases h0 : i = 0
  · subst h0; rfl
  · simp [Addr.add, h0]
theorem lit_mid (g : Nat) (v v' : Value) (bs zs : List Int) (w : World) (o : Obj) (w' : World) (h : Wtr w g v bs) (h1 : Wtr (w.alloc o) g v bs) (hown : w'.ownsRow 0 5 1 v' zs.length (byts zs)) (hg : (w.alloc o).grownBy w' v.ownBlock)
    (hat : v'.ownBlock = v.ownBlock ∨ v'.ownBlock = some (w.alloc o).heap.size) :
    Blk w' g 60 #[v] ∧ OwnB w' 0 5 v' zs ∧ Fr (WS g v) w w' ∧ At w w' v v' ∧ ∃ A cap, v' = .slice A zs.length cap := by
  obtain ⟨a1, a2, a3, a4, a5⟩ := put_mid g v v' bs zs _ w' h1 hown hg hat
  have fa : Fr (WS g v) w (w.alloc o) := (Fr.refl _ w).alloc o
  refine ⟨a1, a2, fa.trans a3 (fun _ _ h => h), ?_, a5⟩
  rcases a4 with e | ⟨b, e1, e2, e3⟩
  · exact .inl e
  · exact .inr ⟨b, e1, Nat.le_trans fa.size e2, e3⟩

set_option maxHeartbeats 1000000 in
theorem wu8_calls (g : Nat) (v : Value) (bs : List Int) (x : Int) (w : World) (h : Wtr w g v bs) (hl : bs.length + 1 ≤ 140737488355328) :
    Calls Try.prog 25 #[.pointer (some ⟨g, 0, none⟩), .int .u8 x] w (PutP w g v bs [x]) := by
  obtain ⟨i0, hi0, hz0, hz1, hz2⟩ := info_parts info_b
  have hb := h.1
  have c0 := hb.cell 0
  have f0 := hb.frozen 0
  simp at c0
  have huw := Try.underlying60
  have hlt := hb.lt
  obtain ⟨h', rd⟩ := lit_own (ys := [x]) h #[.int .u8 x] (by intro i hi; match i, hi with | 0, _ => rfl)
  have own := h'.2
  go_enter Try.func25, Try.ntmps25
  go_wp2_with (at_builtin; refine wpList_append_b _ rfl (.tmp 8) (.tmp 10) _ rfl 0 5 i0 Try.underlying29 hi0 hz0 hz1 hz2 v bs rfl own 0 (w.heap.size + 1) _ _ 1 [x] rfl rfl rd hl (Nat.zero_le _) ?_; intro v' w' hown hg hat; obtain ⟨hb', own', f, hat', A', cap', ev⟩ := lit_mid g v v' bs _ w _ w' h h' hown hg hat; clear hown hg hat; subst ev; have c1 := hb'.cell 0; have f1 := hb'.frozen 0; have l1 := hb'.lt; simp at c1)
  have fin := put_end h (.inr trivial) own' f hat' hb'
  rw [List.length_append] at fin
  first | go_end0 | ((try simp only [Exit.inBlock, Exit.then]); refine bodyPost_ret (results_none rfl _ _ _) rfl ?_)
  exact ⟨rfl, fin⟩

set_option maxHeartbeats 1000000 in
theorem wu16_calls (g : Nat) (v : Value) (bs : List Int) (x : Int) (w : World) (h : Wtr w g v bs) (hl : bs.length + 2 ≤ 140737488355328) :
    Calls Try.prog 27 #[.pointer (some ⟨g, 0, none⟩), .int .u16 x] w (PutP w g v bs [x / 256 % 256, x % 256]) := by
  obtain ⟨i0, hi0, hz0, hz1, hz2⟩ := info_parts info_b
  have hb := h.1
  have c0 := hb.cell 0
  have f0 := hb.frozen 0
  simp at c0
  have huw := Try.underlying60
  have hlt := hb.lt
  obtain ⟨h', rd⟩ := lit_own (ys := [x / 256 % 256, x % 256]) h #[.int .u8 (x / 256 % 256), .int .u8 (x % 256)] (by intro i hi; match i, hi with | 0, _ => rfl | 1, _ => rfl)
  have own := h'.2
  go_enter Try.func27, Try.ntmps27
  go_wp2_with (at_builtin; refine wpList_append_b _ rfl (.tmp 8) (.tmp 14) _ rfl 0 5 i0 Try.underlying29 hi0 hz0 hz1 hz2 v bs rfl own 0 (w.heap.size + 1) _ _ 2 [x / 256 % 256, x % 256] rfl rfl rd hl (Nat.zero_le _) ?_; intro v' w' hown hg hat; obtain ⟨hb', own', f, hat', A', cap', ev⟩ := lit_mid g v v' bs _ w _ w' h h' hown hg hat; clear hown hg hat; subst ev; have c1 := hb'.cell 0; have f1 := hb'.frozen 0; have l1 := hb'.lt; simp at c1)
  have fin := put_end h (.inr trivial) own' f hat' hb'
  rw [List.length_append] at fin
  first | go_end0 | ((try simp only [Exit.inBlock, Exit.then]); refine bodyPost_ret (results_none rfl _ _ _) rfl ?_)
  exact ⟨rfl, fin⟩

/-- Two pieces put one behind the other. -/
theorem put_two {w w1 w2 : World} {g : Nat} {v v1 v2 : Value} {bs xs ys : List Int} (h : Wtr w g v bs) (hat : At w w1 v v1) (f : Fr (WS g v) w w1) (h2 : Wtr w2 g v2 (bs ++ xs ++ ys)) (hat2 : At w1 w2 v1 v2) (f2 : Fr (WS g v1) w1 w2) :
    ∃ v', Wtr w2 g v' (bs ++ (xs ++ ys)) ∧ At w w2 v v' ∧ Fr (WS g v) w w2 := by
  refine ⟨v2, by rw [← List.append_assoc]; exact h2, ?_, f.trans f2 (fun k hk hS => ?_)⟩
  · rcases hat2 with e | ⟨b, e, e2, e3⟩
    · rcases hat with e' | ⟨b', e1', e2', e3'⟩
      · exact .inl (e.trans e')
      · exact .inr ⟨b', e.trans e1', e2', Nat.lt_of_lt_of_le e3' f2.size⟩
    · exact .inr ⟨b, e, Nat.le_trans f.size e2, e3⟩
  · rcases hS with e | e
    · exact .inl e
    · rcases hat with e' | ⟨b', e1', e2', _⟩
      · exact .inr (e' ▸ e)
      · rw [e1'] at e; injection e with e; omega

set_option maxHeartbeats 1000000 in
theorem wu32_calls (g : Nat) (v : Value) (bs : List Int) (x : Int) (w : World) (h : Wtr w g v bs) (hl : bs.length + 4 ≤ 140737488355328) :
    Calls Try.prog 47 #[.pointer (some ⟨g, 0, none⟩), .int .u32 x] w (PutP w g v bs [x / 16777216 % 256, x / 65536 % 256, x / 256 % 256, x % 256]) := by
  go_enter Try.func47, Try.ntmps47
  go_wp2_with fail
  refine (wu16_calls g v bs _ w h (by omega)).mono ?_
  rintro e w1 ⟨rfl, v1, h1, hat1, f1⟩
  go_wp2_with fail
  refine (wu16_calls g v1 _ _ w1 h1 (by simp; omega)).mono ?_
  rintro e w2 ⟨rfl, v2, h2, hat2, f2⟩
  have fin := put_two h hat1 f1 h2 hat2 f2
  go_wp2
  first | go_end0 | ((try simp only [Exit.inBlock, Exit.then]); refine bodyPost_ret (results_none rfl _ _ _) rfl ?_)
  refine ⟨rfl, ?_⟩
  have e1 : [x / 16777216 % 256, x / 65536 % 256, x / 256 % 256, x % 256] = [x / 65536 % 65536 / 256 % 256, x / 65536 % 65536 % 256] ++ [x % 65536 / 256 % 256, x % 65536 % 256] := by
    simp; omega
  rw [e1]
  exact fin

set_option maxHeartbeats 1000000 in
theorem wlen_calls (g : Nat) (v : Value) (bs : List Int) (w : World) (h : Wtr w g v bs) :
    Calls Try.prog 24 #[.pointer (some ⟨g, 0, none⟩)] w (fun e w' => e = .returned (.int .i64 bs.length) ∧ w' = w) := by
  obtain ⟨A, cap, rfl, hc, _⟩ := OwnB.slice h.2
  have c0 := h.1.cell 0
  simp at c0
  have huw := Try.underlying60
  go_enter Try.func24, Try.ntmps24
  go_wp2
  go_ret
  exact ⟨rfl, rfl⟩
theorem OwnB.slb {w : World} {base : Nat} {v : Value} {xs : List Int} (h : OwnB w base 5 v xs) : SlB w base w.heap.size v xs := SlB.of_own h
set_option maxHeartbeats 1000000 in
theorem wout_calls (g : Nat) (v : Value) (bs : List Int) (w : World) (h : Wtr w g v bs) (hl : bs.length ≤ 140737488355328) :
    Calls Try.prog 29 #[.pointer (some ⟨g, 0, none⟩)] w (fun e w' => ∃ v', e = .returned v' ∧ OwnB w' w.heap.size 5 v' bs ∧ Below w.heap.size w w') := by
  have sl := SlB.of_own h.2
  obtain ⟨A, cap, rfl, hc, _⟩ := OwnB.slice h.2
  have c0 := h.1.cell 0
  simp at c0
  have huw := Try.underlying60
  go_enter Try.func29, Try.ntmps29
  go_wp2_with fail
  refine (clone_calls _ _ _ bs w sl hl).mono ?_
  rintro e w1 ⟨v', rfl, o1, B1⟩
  obtain ⟨A', cap', rfl, _, _⟩ := OwnB.slice o1
  go_wp2
  go_ret
  exact ⟨_, rfl, o1, B1⟩
theorem step_run {P : Program} {ops : Array Oper} {o : Oper} {a : Act} {w : World} {K : Act → World → Prop} {Q : Exit → Act → World → Prop} {E : Prop}
    (hg : o.guard = none) (s x : Operand) (t tn : TypeId) (hop : o.op = Op.call { callee := Callee.builtin Builtin.append, args := #[s, x], argTypes := #[t, tn] }) (vs vx : Value) (hs : a.eval s = vs) (hx : a.eval x = vx)
    (v' : Value) (w' : World) (hr : (Builtin.append_ #[t, tn] o.type #[vs, vx]).run P w = .ok v' w') (hK : K (a.put o.dst v') w') :
    if Region.wanted o (yielded ops a.tmps) = true then Oper.wp P o a w K Q else E := by
  have hw : Region.wanted o (yielded ops a.tmps) = true := by simp [Region.wanted, hg]
  rw [if_pos hw]
  exact Lib.wp_append_run w s x t tn hop vs vx hs hx v' w' hr hK
theorem zeros_b (m : Nat) : (Builtin.zeroCells (Value.int .u8 0).cells m).toList = byts (List.replicate m 0) := by
  apply List.ext_getElem?
  intro i
  by_cases h : i < m <;> simp [Builtin.zeroCells, byts, Value.cells, List.getElem?_map, List.getElem?_replicate, List.getElem?_range, h, Nat.mod_one]
theorem run_zeros (base : Nat) (v : Value) (bs : List Int) (m : Nat) (w : World) (own : OwnB w base 5 v bs) (hl : bs.length + m ≤ 140737488355328) (hbase : base ≤ w.heap.size) :
    ∃ v' w', (Builtin.append_ #[29, 3] 29 #[v, .int .i64 m]).run Try.prog w = .ok v' w' ∧ w'.ownsRow base 5 1 v' (bs ++ List.replicate m 0).length (byts (bs ++ List.replicate m 0)) ∧ w.grownBy w' v.ownBlock ∧
      (v'.ownBlock = v.ownBlock ∨ v'.ownBlock = some w.heap.size) := by
  obtain ⟨i0, hi0, hz0, hz1, hz2⟩ := info_parts info_b
  obtain ⟨v', w', h1, h2, h3, h4⟩ := PrintWords.run_append_zeros (P := Try.prog) w base 29 3 29 5 i0 (.int .u8 0) 1 1 Try.underlying29 Try.underlying3 hi0 hz0 hz1 hz2 rfl (by decide) (by decide) v bs.length (byts bs) own .i64 m
    (by rw [zeros_b]; exact byts_one _) (by omega) hbase
  refine ⟨v', w', h1, ?_, h3, h4⟩
  rw [zeros_b] at h2
  have e1 : (bs ++ List.replicate m 0).length = bs.length + m := by simp
  rw [e1]
  simpa [byts] using h2

set_option maxHeartbeats 1000000 in
set_option maxRecDepth 100000 in
theorem wpad_calls (g : Nat) (v : Value) (bs : List Int) (n : Nat) (w : World) (h : Wtr w g v bs) (hl : bs.length + n ≤ 140737488355328) (hn : 0 < n) :
    Calls Try.prog 30 #[.pointer (some ⟨g, 0, none⟩), .int .i64 n] w (PutP w g v bs (List.replicate ((n - bs.length % n) % n) 0)) := by
  have hb := h.1
  have own := h.2
  have c0 := hb.cell 0
  have f0 := hb.frozen 0
  simp at c0
  have huw := Try.underlying60
  obtain ⟨A, cap, rfl, hc, _⟩ := OwnB.slice h.2
  have hn0 : ¬ (n : Int) ≤ 0 := by omega
  have hn1 : (0 : Int) < n := by omega
  have hn2 : ¬ (n : Int) = 0 := by omega
  by_cases hm : bs.length % n = 0
  · have hmod : (bs.length : Int) % n = 0 := by omega
    go_enter Try.func30, Try.ntmps30
    go_wp2
    first | go_end0 | ((try simp only [Exit.inBlock, Exit.then]); refine bodyPost_ret (results_none rfl _ _ _) rfl ?_)
    refine ⟨rfl, _, ?_, .inl rfl, Fr.refl _ _⟩
    simpa using h
  · have hn3 : ¬ n = 0 := by omega
    have hmod : 0 < (bs.length : Int) % n := by omega
    have ht : (bs.length : Int).tmod n = (bs.length : Int) % n := Int.tmod_eq_emod_of_nonneg (by omega)
    have hmod0 : 0 ≤ (bs.length : Int) % n := Int.emod_nonneg _ hn2
    have hlt := Nat.mod_lt bs.length hn
    have em : ((n - bs.length % n : Nat) : Int) = (n : Int) - (bs.length : Int) % n := by omega
    have eq : (n - bs.length % n) % n = n - bs.length % n := Nat.mod_eq_of_lt (by omega)
    rw [eq]
    have hwr := Lib.hid (show IntKind.i64.wrap ((n : Int) - (bs.length : Int) % n) = (n : Int) - (bs.length : Int) % n by rw [IntKind.wrap_i64]; omega)
    obtain ⟨m, hm'⟩ : ∃ m, m = n - bs.length % n := ⟨_, rfl⟩
    rw [← hm'] at em ⊢
    obtain ⟨v', w', hrun, hown, hg, hat⟩ := run_zeros 0 _ bs m w.drew own (by omega) (Nat.zero_le _)
    rw [em] at hrun
    have h' : Wtr w.drew g (.slice A bs.length cap) bs := h
    obtain ⟨hb', own', f, hat', A', cap', ev⟩ := put_mid g _ v' bs _ w.drew w' h' hown hg hat
    subst ev
    have c1 := hb'.cell 0
    have f1 := hb'.frozen 0
    have l1 := hb'.lt
    simp at c1
    have fin := Lib.hid (put_end h' (.inr trivial) own' f hat' hb')
    have HR := Lib.hid hrun
    clear hrun hown hg hat hb' own' f hat' em
    go_enter Try.func30, Try.ntmps30
    go_wp2_with fail
    go_region_law (refine step_run rfl (.tmp 20) (.tmp 29) _ _ rfl (.slice A bs.length cap) (.int .i64 ((n : Int) - (bs.length : Int) % n)) (by simp [Act.eval, Act.put]) (by simp [Act.eval, Act.put, hwr.out]) _ _ HR.out ?_)
    all_goals (
      first | go_end0 | ((try simp only [Exit.inBlock, Exit.then]); refine bodyPost_ret (results_none rfl _ _ _) rfl ?_)
      obtain ⟨v1, a1, a2, a3⟩ := fin.out
      subst hm'
      rw [List.length_append, List.length_replicate] at a1 a2 a3
      exact ⟨rfl, v1, a1, a2, ⟨a3.os, a3.tape, a3.output, a3.size, a3.block⟩⟩)
end Go.Proofs.Ytaifihoheieneaa.Octet

