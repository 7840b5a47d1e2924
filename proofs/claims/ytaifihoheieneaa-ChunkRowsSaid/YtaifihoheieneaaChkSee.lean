/- How a chunk reads that is an argument. Conditions: the row's own. -/
import Derived.Test.YtaifihoheieneaaChkMath
import Derived.Test.YtaifihoheieneaaArgs
namespace Go.Proofs.Ytaifihoheieneaa.Mem
set_option linter.unusedVariables false
open Go.RowKit
/-- A slice of whole numbers within the data of an argument. -/
theorem sees_ints {P : Program} {w : World} {t e : TypeId} {k : IntKind} {A : Option Addr} {len cap : Nat} (ht : P.underlying t = some (.slice e)) (he : P.underlying e = some (.int k)) (hc : P.cellsOf e = 1) (h : Sees P w t [.slice A len cap]) :
    ∃ l : List Int, len = l.length ∧ ReadsI w k A l ∧ l.length ≤ cap ∧ cap ≤ maxLen ∧ (∀ x ∈ l, (Lit.int k x).wf = true) ∧ (A = none → cap = 0) := by
  rcases sees_slice ht h with h | ⟨a, len', cap', h, hl, hm, hx⟩
  · injection h with h _
    injection h with h1 h2 h3
    subst h1; subst h2; subst h3
    exact ⟨[], rfl, .inl rfl, Nat.le_refl _, Nat.zero_le _, (fun x hx => by simp at hx), fun _ => rfl⟩
  · injection h with h _
    injection h with h1 h2 h3
    subst h1; subst h2; subst h3
    have key : ∀ i, i < len → ∃ x : Int, w.cell? (a.add i) = some (.int k x) ∧ (Lit.int k x).wf = true := by
      intro i hi
      obtain ⟨cs, h1, h2, h3⟩ := hx i hi
      obtain ⟨n, rfl, hn⟩ := sees_int he h3
      have d := h2 0 _ rfl
      rw [add_zero_, hc, Nat.mul_one] at d
      exact ⟨n, d, hn⟩
    obtain ⟨l, e1, hl2⟩ := list_of key
    refine ⟨l, e1.symm, .inr ⟨a, rfl, fun i hi => (hl2 i hi).1⟩, by omega, hm, fun x hx => ?_, fun h => by cases h⟩
    obtain ⟨i, hi, rfl⟩ := List.getElem_of_mem hx
    exact (hl2 i hi).2
end Go.Proofs.Ytaifihoheieneaa.Mem
namespace Go.Proofs.Ytaifihoheieneaa.Chk
open Go.RowKit Go.Proofs.Ytaifihoheieneaa.Mem Go.Proofs.Ytaifihoheieneaa.Octet Go.Proofs.Ytaifihoheieneaa.Prm
set_option linter.unusedVariables false
set_option linter.unusedSimpArgs false
theorem rng16 {x : Int} (h : (Lit.int .u16 x).wf = true) : 0 ≤ x ∧ x < 65536 := by simp [Lit.wf, IntKind.min, IntKind.max, IntKind.bits, IntKind.signed] at h; omega
theorem rng32 {x : Int} (h : (Lit.int .u32 x).wf = true) : 0 ≤ x ∧ x < 4294967296 := by simp [Lit.wf, IntKind.min, IntKind.max, IntKind.bits, IntKind.signed] at h; omega
theorem dup_of {w : World} {A : Option Addr} {l : List Int} (h : ReadsI w .u32 A l) : DupC w 0 w.heap.size A l := fun i hi => by
  rcases h with rfl | ⟨a, rfl, h⟩
  · cases hi
  · have := h i hi
    have hb := World.block_lt_of_cell? w _ this
    rw [add_block] at hb
    exact ⟨a, rfl, Nat.zero_le _, hb, this⟩
set_option maxRecDepth 100000 in
theorem pm_of_see {w : World} {A : Option Addr} {len cap : Nat} (h : Sees Try.prog w 28 [.slice A len cap]) :
    ∃ ps : List Pm, len = ps.length ∧ PmC w 0 w.heap.size A ps ∧ (∀ p ∈ ps, InB p) ∧ len ≤ cap ∧ cap ≤ maxLen := by
  rcases sees_slice Try.underlying28 h with h | ⟨a, len', cap', h, hl, hm, hx⟩
  · injection h with h _
    injection h with h1 h2 h3
    subst h1; subst h2; subst h3
    exact ⟨[], rfl, (fun i hi => by simp at hi), (fun p hp => by simp at hp), Nat.le_refl _, Nat.zero_le _⟩
  · injection h with h _
    injection h with h1 h2 h3
    subst h1; subst h2; subst h3
    have c2 : Try.prog.cellsOf 57 = 2 := by kernel_rfl
    have c1 : Try.prog.cellsOf 24 = 1 := by kernel_rfl
    have c3 : Try.prog.cellsOf 29 = 1 := by kernel_rfl
    have key : ∀ i, i < len → ∃ x : Pm, (a.block < w.heap.size ∧ ∃ s, w.cell? (a.add (i * 2)) = some (.int .u16 x.1) ∧ w.cell? ((a.add (i * 2)).add 1) = some s ∧ SlB w 0 w.heap.size s x.2) ∧ InB x := by
      intro i hi
      obtain ⟨cs, h1, h2, h3⟩ := hx i hi
      obtain ⟨g1, g2⟩ := sees_struct Try.underlying57 h3
      rw [c2] at h1 h2
      match cs, h1 with
      | [v0, v1], _ =>
        have f0 := g2 _ (List.Mem.head _)
        have f1 := g2 _ (List.Mem.tail _ (List.Mem.head _))
        simp only [c1, c3, List.drop, List.take] at f0 f1
        obtain ⟨n0, e0, z0⟩ := sees_int Try.underlying24 f0
        simp only [List.cons.injEq, and_true] at e0
        have e3 : ∃ A3 n3 p3, v1 = .slice A3 n3 p3 := by
          rcases sees_slice Try.underlying29 f1 with h | ⟨_, _, _, h, _⟩
          · injection h with h _; exact ⟨_, _, _, h⟩
          · injection h with h _; exact ⟨_, _, _, h⟩
        obtain ⟨A3, n3, p3, rfl⟩ := e3
        obtain ⟨l, rfl, hr, hlc, hm3, hwf, hnil⟩ := sees_ints Try.underlying29 Try.underlying5 (by kernel_rfl) f1
        subst e0
        have d0 := h2 0 _ rfl
        have d1 := h2 1 _ rfl
        rw [add_zero_] at d0
        have r0 : 0 ≤ n0 ∧ n0 < 65536 := by simp [Lit.wf, IntKind.min, IntKind.max, IntKind.bits, IntKind.signed] at z0; omega
        have hb := World.block_lt_of_cell? w _ d0
        rw [add_block] at hb
        exact ⟨(n0, l), ⟨hb, _, d0, d1, A3, p3, rfl, hlc, hm3, hnil, rdb_of hr⟩, r0.1, r0.2, (fun x hx => range_u8 x (hwf x hx))⟩
    obtain ⟨l, e, hl2⟩ := list_of key
    refine ⟨l, e.symm, fun i hi => ?_, fun p hp => ?_, hl, hm⟩
    · obtain ⟨⟨hb, s, d0, d1, d2⟩, _⟩ := hl2 i hi
      exact ⟨a, s, rfl, Nat.zero_le _, hb, d0, d1, d2⟩
    · obtain ⟨i, hi, rfl⟩ := List.getElem_of_mem hp
      exact (hl2 i hi).2
set_option maxRecDepth 100000 in
theorem gap_of_see {w : World} {A : Option Addr} {len cap : Nat} (h : Sees Try.prog w 25 [.slice A len cap]) :
    ∃ ps : List (Int × Int), len = ps.length ∧ GapC w 0 w.heap.size A ps ∧ (∀ g ∈ ps, (0 ≤ g.1 ∧ g.1 < 65536) ∧ 0 ≤ g.2 ∧ g.2 < 65536) ∧ len ≤ maxLen := by
  rcases sees_slice Try.underlying25 h with h | ⟨a, len', cap', h, hl, hm, hx⟩
  · injection h with h _
    injection h with h1 h2 h3
    subst h1; subst h2; subst h3
    exact ⟨[], rfl, (fun i hi => by simp at hi), (fun p hp => by simp at hp), Nat.zero_le _⟩
  · injection h with h _
    injection h with h1 h2 h3
    subst h1; subst h2; subst h3
    have c2 : Try.prog.cellsOf 73 = 2 := by kernel_rfl
    have c1 : Try.prog.cellsOf 24 = 1 := by kernel_rfl
    have c3 : Try.prog.cellsOf 23 = 1 := by kernel_rfl
    have c4 : Try.prog.cellsOf 4 = 1 := by kernel_rfl
    have key : ∀ i, i < len → ∃ x : (Int × Int), (a.block < w.heap.size ∧ w.cell? (a.add (i * 2)) = some (.int .u16 x.1) ∧ w.cell? ((a.add (i * 2)).add 1) = some (.int .u16 x.2)) ∧ (0 ≤ x.1 ∧ x.1 < 65536) ∧ 0 ≤ x.2 ∧ x.2 < 65536 := by
      intro i hi
      obtain ⟨cs, h1, h2, h3⟩ := hx i hi
      obtain ⟨g1, g2⟩ := sees_struct Try.underlying73 h3
      rw [c2] at h1 h2
      match cs, h1 with
      | [v0, v1], _ =>
        have f0 := g2 _ (List.Mem.head _)
        have f1 := g2 _ (List.Mem.tail _ (List.Mem.head _))
        simp only [c1, c3, c4, List.drop, List.take] at f0 f1
        obtain ⟨n0, e0, z0⟩ := sees_int Try.underlying24 f0
        obtain ⟨n1, e1, z1⟩ := sees_int Try.underlying24 f1
        simp only [List.cons.injEq, and_true] at e0 e1
        subst e0; subst e1
        have d0 := h2 0 _ rfl
        have d1 := h2 1 _ rfl
        rw [add_zero_] at d0
        have hb := World.block_lt_of_cell? w _ d0
        rw [add_block] at hb
        exact ⟨(n0, n1), ⟨hb, d0, d1⟩, rng16 z0, rng16 z1⟩
    obtain ⟨l, e, hl2⟩ := list_of key
    refine ⟨l, e.symm, fun i hi => ?_, fun p hp => ?_, Nat.le_trans hl hm⟩
    · obtain ⟨⟨hb, hd⟩, _⟩ := hl2 i hi
      exact ⟨a, rfl, Nat.zero_le _, hb, hd⟩
    · obtain ⟨i, hi, rfl⟩ := List.getElem_of_mem hp
      exact (hl2 i hi).2
set_option maxRecDepth 100000 in
theorem skp_of_see {w : World} {A : Option Addr} {len cap : Nat} (h : Sees Try.prog w 27 [.slice A len cap]) :
    ∃ ps : List (Int × Bool × Int), len = ps.length ∧ SkpC w 0 w.heap.size A ps ∧ (∀ g ∈ ps, (0 ≤ g.1 ∧ g.1 < 65536) ∧ 0 ≤ g.2.2 ∧ g.2.2 < 4294967296) ∧ len ≤ maxLen := by
  rcases sees_slice Try.underlying27 h with h | ⟨a, len', cap', h, hl, hm, hx⟩
  · injection h with h _
    injection h with h1 h2 h3
    subst h1; subst h2; subst h3
    exact ⟨[], rfl, (fun i hi => by simp at hi), (fun p hp => by simp at hp), Nat.zero_le _⟩
  · injection h with h _
    injection h with h1 h2 h3
    subst h1; subst h2; subst h3
    have c2 : Try.prog.cellsOf 75 = 3 := by kernel_rfl
    have c1 : Try.prog.cellsOf 24 = 1 := by kernel_rfl
    have c3 : Try.prog.cellsOf 23 = 1 := by kernel_rfl
    have c4 : Try.prog.cellsOf 4 = 1 := by kernel_rfl
    have key : ∀ i, i < len → ∃ x : (Int × Bool × Int), (a.block < w.heap.size ∧ w.cell? (a.add (i * 3)) = some (.int .u16 x.1) ∧ w.cell? ((a.add (i * 3)).add 1) = some (.bool x.2.1) ∧ w.cell? ((a.add (i * 3)).add 2) = some (.int .u32 x.2.2)) ∧ (0 ≤ x.1 ∧ x.1 < 65536) ∧ 0 ≤ x.2.2 ∧ x.2.2 < 4294967296 := by
      intro i hi
      obtain ⟨cs, h1, h2, h3⟩ := hx i hi
      obtain ⟨g1, g2⟩ := sees_struct Try.underlying75 h3
      rw [c2] at h1 h2
      match cs, h1 with
      | [v0, v1, v2], _ =>
        have f0 := g2 _ (List.Mem.head _)
        have f1 := g2 _ (List.Mem.tail _ (List.Mem.head _))
        have f2 := g2 _ (List.Mem.tail _ (List.Mem.tail _ (List.Mem.head _)))
        simp only [c1, c3, c4, List.drop, List.take] at f0 f1 f2
        obtain ⟨n0, e0, z0⟩ := sees_int Try.underlying24 f0
        obtain ⟨n1, e1⟩ := sees_bool Try.underlying4 f1
        obtain ⟨n2, e2, z2⟩ := sees_int Try.underlying23 f2
        simp only [List.cons.injEq, and_true] at e0 e1 e2
        subst e0; subst e1; subst e2
        have d0 := h2 0 _ rfl
        have d1 := h2 1 _ rfl
        have d2 := h2 2 _ rfl
        rw [add_zero_] at d0
        have hb := World.block_lt_of_cell? w _ d0
        rw [add_block] at hb
        exact ⟨(n0, n1, n2), ⟨hb, d0, d1, d2⟩, rng16 z0, rng32 z2⟩
    obtain ⟨l, e, hl2⟩ := list_of key
    refine ⟨l, e.symm, fun i hi => ?_, fun p hp => ?_, Nat.le_trans hl hm⟩
    · obtain ⟨⟨hb, hd⟩, _⟩ := hl2 i hi
      exact ⟨a, rfl, Nat.zero_le _, hb, hd⟩
    · obtain ⟨i, hi, rfl⟩ := List.getElem_of_mem hp
      exact (hl2 i hi).2
set_option maxHeartbeats 4000000 in
set_option maxRecDepth 100000 in
theorem ck_of_see {w : World} {cs : List Value} (h : Sees Try.prog w 31 cs) : ∃ c : Ck, CkV w 0 w.heap.size cs.toArray c ∧ CkB c ∧ (c.gaps.length ≤ maxLen ∧ c.dups.length ≤ maxLen ∧ c.skips.length ≤ maxLen ∧ c.ps.length ≤ maxLen ∧ c.body.length ≤ maxLen) := by
  obtain ⟨g1, g2⟩ := sees_struct Try.underlying31 h
  have c19 : Try.prog.cellsOf 31 = 19 := by kernel_rfl
  have m_u8 : Try.prog.cellsOf 22 = 1 := by kernel_rfl
  have m_b : Try.prog.cellsOf 4 = 1 := by kernel_rfl
  have m_u32 : Try.prog.cellsOf 23 = 1 := by kernel_rfl
  have m_u16 : Try.prog.cellsOf 24 = 1 := by kernel_rfl
  have m_g : Try.prog.cellsOf 25 = 1 := by kernel_rfl
  have m_d : Try.prog.cellsOf 26 = 1 := by kernel_rfl
  have m_s : Try.prog.cellsOf 27 = 1 := by kernel_rfl
  have m_p : Try.prog.cellsOf 28 = 1 := by kernel_rfl
  have m_y : Try.prog.cellsOf 29 = 1 := by kernel_rfl
  rw [c19] at g1
  match cs, g1 with
  | [v0, v1, v2, v3, v4, v5, v6, v7, v8, v9, v10, v11, v12, v13, v14, v15, v16, v17, v18], _ =>
    have f0 := g2 _ (List.Mem.head _)
    have f1 := g2 _ (List.Mem.tail _ (List.Mem.head _))
    have f2 := g2 _ (List.Mem.tail _ (List.Mem.tail _ (List.Mem.head _)))
    have f3 := g2 _ (List.Mem.tail _ (List.Mem.tail _ (List.Mem.tail _ (List.Mem.head _))))
    have f4 := g2 _ (List.Mem.tail _ (List.Mem.tail _ (List.Mem.tail _ (List.Mem.tail _ (List.Mem.head _)))))
    have f5 := g2 _ (List.Mem.tail _ (List.Mem.tail _ (List.Mem.tail _ (List.Mem.tail _ (List.Mem.tail _ (List.Mem.head _))))))
    have f6 := g2 _ (List.Mem.tail _ (List.Mem.tail _ (List.Mem.tail _ (List.Mem.tail _ (List.Mem.tail _ (List.Mem.tail _ (List.Mem.head _)))))))
    have f7 := g2 _ (List.Mem.tail _ (List.Mem.tail _ (List.Mem.tail _ (List.Mem.tail _ (List.Mem.tail _ (List.Mem.tail _ (List.Mem.tail _ (List.Mem.head _))))))))
    have f8 := g2 _ (List.Mem.tail _ (List.Mem.tail _ (List.Mem.tail _ (List.Mem.tail _ (List.Mem.tail _ (List.Mem.tail _ (List.Mem.tail _ (List.Mem.tail _ (List.Mem.head _)))))))))
    have f9 := g2 _ (List.Mem.tail _ (List.Mem.tail _ (List.Mem.tail _ (List.Mem.tail _ (List.Mem.tail _ (List.Mem.tail _ (List.Mem.tail _ (List.Mem.tail _ (List.Mem.tail _ (List.Mem.head _))))))))))
    have f10 := g2 _ (List.Mem.tail _ (List.Mem.tail _ (List.Mem.tail _ (List.Mem.tail _ (List.Mem.tail _ (List.Mem.tail _ (List.Mem.tail _ (List.Mem.tail _ (List.Mem.tail _ (List.Mem.tail _ (List.Mem.head _)))))))))))
    have f11 := g2 _ (List.Mem.tail _ (List.Mem.tail _ (List.Mem.tail _ (List.Mem.tail _ (List.Mem.tail _ (List.Mem.tail _ (List.Mem.tail _ (List.Mem.tail _ (List.Mem.tail _ (List.Mem.tail _ (List.Mem.tail _ (List.Mem.head _))))))))))))
    have f12 := g2 _ (List.Mem.tail _ (List.Mem.tail _ (List.Mem.tail _ (List.Mem.tail _ (List.Mem.tail _ (List.Mem.tail _ (List.Mem.tail _ (List.Mem.tail _ (List.Mem.tail _ (List.Mem.tail _ (List.Mem.tail _ (List.Mem.tail _ (List.Mem.head _)))))))))))))
    have f13 := g2 _ (List.Mem.tail _ (List.Mem.tail _ (List.Mem.tail _ (List.Mem.tail _ (List.Mem.tail _ (List.Mem.tail _ (List.Mem.tail _ (List.Mem.tail _ (List.Mem.tail _ (List.Mem.tail _ (List.Mem.tail _ (List.Mem.tail _ (List.Mem.tail _ (List.Mem.head _))))))))))))))
    have f14 := g2 _ (List.Mem.tail _ (List.Mem.tail _ (List.Mem.tail _ (List.Mem.tail _ (List.Mem.tail _ (List.Mem.tail _ (List.Mem.tail _ (List.Mem.tail _ (List.Mem.tail _ (List.Mem.tail _ (List.Mem.tail _ (List.Mem.tail _ (List.Mem.tail _ (List.Mem.tail _ (List.Mem.head _)))))))))))))))
    have f15 := g2 _ (List.Mem.tail _ (List.Mem.tail _ (List.Mem.tail _ (List.Mem.tail _ (List.Mem.tail _ (List.Mem.tail _ (List.Mem.tail _ (List.Mem.tail _ (List.Mem.tail _ (List.Mem.tail _ (List.Mem.tail _ (List.Mem.tail _ (List.Mem.tail _ (List.Mem.tail _ (List.Mem.tail _ (List.Mem.head _))))))))))))))))
    have f16 := g2 _ (List.Mem.tail _ (List.Mem.tail _ (List.Mem.tail _ (List.Mem.tail _ (List.Mem.tail _ (List.Mem.tail _ (List.Mem.tail _ (List.Mem.tail _ (List.Mem.tail _ (List.Mem.tail _ (List.Mem.tail _ (List.Mem.tail _ (List.Mem.tail _ (List.Mem.tail _ (List.Mem.tail _ (List.Mem.tail _ (List.Mem.head _)))))))))))))))))
    have f17 := g2 _ (List.Mem.tail _ (List.Mem.tail _ (List.Mem.tail _ (List.Mem.tail _ (List.Mem.tail _ (List.Mem.tail _ (List.Mem.tail _ (List.Mem.tail _ (List.Mem.tail _ (List.Mem.tail _ (List.Mem.tail _ (List.Mem.tail _ (List.Mem.tail _ (List.Mem.tail _ (List.Mem.tail _ (List.Mem.tail _ (List.Mem.tail _ (List.Mem.head _))))))))))))))))))
    have f18 := g2 _ (List.Mem.tail _ (List.Mem.tail _ (List.Mem.tail _ (List.Mem.tail _ (List.Mem.tail _ (List.Mem.tail _ (List.Mem.tail _ (List.Mem.tail _ (List.Mem.tail _ (List.Mem.tail _ (List.Mem.tail _ (List.Mem.tail _ (List.Mem.tail _ (List.Mem.tail _ (List.Mem.tail _ (List.Mem.tail _ (List.Mem.tail _ (List.Mem.tail _ (List.Mem.head _)))))))))))))))))))
    simp only [m_u8, m_b, m_u32, m_u16, m_g, m_d, m_s, m_p, m_y, List.drop, List.take] at f0 f1 f2 f3 f4 f5 f6 f7 f8 f9 f10 f11 f12 f13 f14 f15 f16 f17 f18
    obtain ⟨k, e0, z0⟩ := sees_int Try.underlying22 f0
    obtain ⟨b, e1⟩ := sees_bool Try.underlying4 f1
    obtain ⟨e, e2⟩ := sees_bool Try.underlying4 f2
    obtain ⟨l, e3⟩ := sees_bool Try.underlying4 f3
    obtain ⟨r, e4⟩ := sees_bool Try.underlying4 f4
    obtain ⟨tsn, e5, z5⟩ := sees_int Try.underlying23 f5
    obtain ⟨st, e6, z6⟩ := sees_int Try.underlying24 f6
    obtain ⟨mid, e7, z7⟩ := sees_int Try.underlying23 f7
    obtain ⟨pp, e8, z8⟩ := sees_int Try.underlying23 f8
    obtain ⟨fr, e9, z9⟩ := sees_int Try.underlying23 f9
    obtain ⟨tag, e10, z10⟩ := sees_int Try.underlying23 f10
    obtain ⟨win, e11, z11⟩ := sees_int Try.underlying23 f11
    obtain ⟨out, e12, z12⟩ := sees_int Try.underlying24 f12
    obtain ⟨inn, e13, z13⟩ := sees_int Try.underlying24 f13
    simp only [List.cons.injEq, and_true] at e0 e1 e2 e3 e4 e5 e6 e7 e8 e9 e10 e11 e12 e13
    subst e0; subst e1; subst e2; subst e3; subst e4; subst e5; subst e6; subst e7; subst e8; subst e9; subst e10; subst e11; subst e12; subst e13
    have x14 : ∃ A n p, v14 = .slice A n p := by
      rcases sees_slice Try.underlying25 f14 with h | ⟨_, _, _, h, _⟩
      · injection h with h _; exact ⟨_, _, _, h⟩
      · injection h with h _; exact ⟨_, _, _, h⟩
    obtain ⟨A14, n14, p14, rfl⟩ := x14
    have x15 : ∃ A n p, v15 = .slice A n p := by
      rcases sees_slice Try.underlying26 f15 with h | ⟨_, _, _, h, _⟩
      · injection h with h _; exact ⟨_, _, _, h⟩
      · injection h with h _; exact ⟨_, _, _, h⟩
    obtain ⟨A15, n15, p15, rfl⟩ := x15
    have x16 : ∃ A n p, v16 = .slice A n p := by
      rcases sees_slice Try.underlying27 f16 with h | ⟨_, _, _, h, _⟩
      · injection h with h _; exact ⟨_, _, _, h⟩
      · injection h with h _; exact ⟨_, _, _, h⟩
    obtain ⟨A16, n16, p16, rfl⟩ := x16
    have x17 : ∃ A n p, v17 = .slice A n p := by
      rcases sees_slice Try.underlying28 f17 with h | ⟨_, _, _, h, _⟩
      · injection h with h _; exact ⟨_, _, _, h⟩
      · injection h with h _; exact ⟨_, _, _, h⟩
    obtain ⟨A17, n17, p17, rfl⟩ := x17
    have x18 : ∃ A n p, v18 = .slice A n p := by
      rcases sees_slice Try.underlying29 f18 with h | ⟨_, _, _, h, _⟩
      · injection h with h _; exact ⟨_, _, _, h⟩
      · injection h with h _; exact ⟨_, _, _, h⟩
    obtain ⟨A18, n18, p18, rfl⟩ := x18
    obtain ⟨gs, rfl, hg, hgr, hgl⟩ := gap_of_see f14
    obtain ⟨ds, rfl, hd, hdc, hdm, hdw, hdn⟩ := sees_ints Try.underlying26 Try.underlying23 (by kernel_rfl) f15
    obtain ⟨ss, rfl, hs, hsr, hsl⟩ := skp_of_see f16
    obtain ⟨ps, rfl, hp, hpr, hpc, hpm⟩ := pm_of_see f17
    obtain ⟨ys, rfl, hy, hyc, hym, hyw, hyn⟩ := sees_ints Try.underlying29 Try.underlying5 (by kernel_rfl) f18
    refine ⟨⟨k, b, e, l, r, tsn, st, mid, pp, fr, tag, win, out, inn, gs, ds, ss, ps, ys⟩, ⟨rfl, by simp [Value.oneCell'], rfl, rfl, rfl, rfl, rfl, rfl, rfl, rfl, rfl, rfl, rfl, rfl, rfl, rfl, ⟨A14, p14, rfl, hg⟩, ⟨A15, p15, rfl, dup_of hd⟩, ⟨A16, p16, rfl, hs⟩, ⟨A17, p17, rfl, hp⟩, ⟨A18, p18, rfl, A18, p18, rfl, hyc, hym, hyn, rdb_of hy⟩⟩,
      ⟨range_u8 _ z0, rng32 z5, rng16 z6, rng32 z7, rng32 z8, rng32 z9, rng32 z10, rng32 z11, rng16 z12, rng16 z13, hgr, fun g h => rng32 (hdw g h), hsr, hpr, fun x hx => range_u8 x (hyw x hx)⟩, hgl, Nat.le_trans hdc hdm, hsl, Nat.le_trans hpc hpm, Nat.le_trans hyc hym⟩
end Go.Proofs.Ytaifihoheieneaa.Chk
