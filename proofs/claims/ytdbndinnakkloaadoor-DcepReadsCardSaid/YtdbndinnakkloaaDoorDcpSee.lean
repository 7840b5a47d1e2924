/- How an offer reads that is an argument; offers' bytes cut off or with more behind. Conditions: the row's own. -/
import Derived.Test.YtdbndinnakkloaaDoorDcpFirst
import Derived.Test.YtdbndinnakkloaaDoorArgs
namespace Go.Proofs.YtdbndinnakkloaaDoor.Dcp
open Go.RowKit Go.Proofs.YtdbndinnakkloaaDoor.Mem Go.Proofs.YtdbndinnakkloaaDoor.Octet
set_option linter.unusedVariables false
set_option linter.unusedSimpArgs false
theorem offer_of_see {w : World} {cs : List Value} (h : Sees Tryd.prog w 30 cs) :
    ∃ (ls : Bool) (k n pri : Int) (l p : ByteArray), (.agg ⟨cs⟩ : Value) = .agg #[.bool ls, .int .i64 k, .int .u32 n, .int .u16 pri, .string l, .string p] ∧ (0 ≤ n ∧ n < 4294967296) ∧ l.size ≤ maxLen ∧ p.size ≤ maxLen := by
  obtain ⟨g1, g2⟩ := sees_struct Tryd.underlying30 h
  have c6 : Tryd.prog.cellsOf 30 = 6 := by kernel_rfl
  have n1 : Tryd.prog.cellsOf 4 = 1 := by kernel_rfl
  have n2 : Tryd.prog.cellsOf 27 = 2 := by kernel_rfl
  have n3 : Tryd.prog.cellsOf 28 = 1 := by kernel_rfl
  have n4 : Tryd.prog.cellsOf 9 = 1 := by kernel_rfl
  have n5 : Tryd.prog.cellsOf 24 = 1 := by kernel_rfl
  have n6 : Tryd.prog.cellsOf 25 = 1 := by kernel_rfl
  rw [c6] at g1
  match cs, g1 with
  | [v0, v1, v2, v3, v4, v5], _ =>
    have f0 := g2 _ (List.Mem.head _)
    have f1 := g2 _ (List.Mem.tail _ (List.Mem.head _))
    have f2 := g2 _ (List.Mem.tail _ (List.Mem.tail _ (List.Mem.head _)))
    have f3 := g2 _ (List.Mem.tail _ (List.Mem.tail _ (List.Mem.tail _ (List.Mem.head _))))
    have f4 := g2 _ (List.Mem.tail _ (List.Mem.tail _ (List.Mem.tail _ (List.Mem.tail _ (List.Mem.head _)))))
    simp only [n1, n2, n3, n4, List.drop, List.take] at f0 f1 f2 f3 f4
    obtain ⟨k1, k2⟩ := sees_struct Tryd.underlying27 f1
    have m0 := k2 _ (List.Mem.head _)
    have m1 := k2 _ (List.Mem.tail _ (List.Mem.head _))
    simp only [n5, n6, List.drop, List.take] at m0 m1
    obtain ⟨ls, e0⟩ := sees_bool Tryd.underlying4 f0
    obtain ⟨k, e1, z1⟩ := sees_int Tryd.underlying24 m0
    obtain ⟨n, e2, z2⟩ := sees_int Tryd.underlying25 m1
    obtain ⟨pri, e3, z3⟩ := sees_int Tryd.underlying28 f2
    obtain ⟨l, e4, z4⟩ := sees_string Tryd.underlying9 f3
    obtain ⟨p, e5, z5⟩ := sees_string Tryd.underlying9 f4
    simp only [List.cons.injEq, and_true] at e0 e1 e2 e3 e4 e5
    subst e0; subst e1; subst e2; subst e3; subst e4; subst e5
    refine ⟨ls, k, n, pri, l, p, rfl, ?_, z4, z5⟩
    simp [Lit.wf] at z2
    rw [show IntKind.u32.min = 0 by rfl, show IntKind.u32.max = 4294967295 by rfl] at z2
    omega
/-- What stands in an offer's bytes. -/
theorem obytes_hd (ls : Bool) (k n pri : Int) (l p : ByteArray) : ∃ r : List Int, obytes ls k n pri l p = 3 :: (if ls then k + 128 else k) :: (pri / 256 % 256) :: (pri % 256) :: (n / 16777216 % 256) :: (n / 65536 % 256) :: (n / 256 % 256) :: (n % 256) :: ((l.size : Int) / 256 % 256) :: ((l.size : Int) % 256) :: ((p.size : Int) / 256 % 256) :: ((p.size : Int) % 256) :: r :=
  ⟨sb l ++ sb p, by simp [obytes]⟩
theorem gE_long {ls : Bool} {k n pri : Int} {l p : ByteArray} (hr : rightB k n = true) (hn : 0 ≤ n ∧ n < 4294967296) (hl : l.size ≤ 255) (hp : p.size ≤ 255) (bs r : List Int)
    (e : bs = 3 :: (if ls then k + 128 else k) :: (pri / 256 % 256) :: (pri % 256) :: (n / 16777216 % 256) :: (n / 65536 % 256) :: (n / 256 % 256) :: (n % 256) :: ((l.size : Int) / 256 % 256) :: ((l.size : Int) % 256) :: ((p.size : Int) / 256 % 256) :: ((p.size : Int) % 256) :: r) (hlen : bs.length ≠ 12 + l.size + p.size) :
    gE bs = if bs.length < 12 + l.size + p.size then 40 else 41 := by
  have e0 : hd bs 0 = 3 := by rw [e]; rfl
  have eK : gK bs = k := by
    have : hd bs 1 = if ls then k + 128 else k := by rw [e]; rfl
    unfold gK
    rw [this]
    have hk := right_k hr
    cases ls
    · simp; omega
    · simp; omega
  have eN : gN bs = n := by
    unfold gN
    rw [show hd bs 4 = n / 16777216 % 256 by rw [e]; rfl, show hd bs 5 = n / 65536 % 256 by rw [e]; rfl, show hd bs 6 = n / 256 % 256 by rw [e]; rfl, show hd bs 7 = n % 256 by rw [e]; rfl]
    omega
  have eA : gA bs = l.size := by
    unfold gA
    rw [show hd bs 8 = (l.size : Int) / 256 % 256 by rw [e]; rfl, show hd bs 9 = (l.size : Int) % 256 by rw [e]; rfl]
    omega
  have eB : gB bs = p.size := by
    unfold gB
    rw [show hd bs 10 = (p.size : Int) / 256 % 256 by rw [e]; rfl, show hd bs 11 = (p.size : Int) % 256 by rw [e]; rfl]
    omega
  have h12 : ¬ bs.length < 12 := by rw [e]; simp
  unfold gE
  rw [if_neg h12, e0, eK, eN, eA, eB, hr, if_neg (by simp), if_neg (by omega)]
  by_cases h : bs.length < 12 + l.size + p.size
  · rw [if_pos h, if_pos h]
  · rw [if_neg h, if_neg h, if_pos (by omega)]
theorem gE_cut {ls : Bool} {k n pri : Int} {l p : ByteArray} (hr : rightB k n = true) (hn : 0 ≤ n ∧ n < 4294967296) (hl : l.size ≤ 255) (hp : p.size ≤ 255) (j : Nat) (hj : j < (obytes ls k n pri l p).length) :
    gE ((obytes ls k n pri l p).take j) = 40 := by
  rw [obytes_len] at hj
  by_cases h12 : j < 12
  · unfold gE
    rw [if_pos (by rw [List.length_take, obytes_len]; omega)]
  · obtain ⟨r, e⟩ := obytes_hd ls k n pri l p
    have hlen : ((obytes ls k n pri l p).take j).length = j := by rw [List.length_take, obytes_len]; omega
    obtain ⟨i, rfl⟩ : ∃ i, j = i + 12 := ⟨j - 12, by omega⟩
    rw [gE_long (ls := ls) (pri := pri) hr hn hl hp ((obytes ls k n pri l p).take (i + 12)) (r.take i) (by rw [e]; rfl) (by rw [hlen]; omega), hlen, if_pos hj]
theorem gE_more {ls : Bool} {k n pri : Int} {l p : ByteArray} (hr : rightB k n = true) (hn : 0 ≤ n ∧ n < 4294967296) (hl : l.size ≤ 255) (hp : p.size ≤ 255) (x : Int) :
    gE (obytes ls k n pri l p ++ [x]) = 41 := by
  obtain ⟨r, e⟩ := obytes_hd ls k n pri l p
  have hlen : (obytes ls k n pri l p ++ [x]).length = 13 + l.size + p.size := by rw [List.length_append, obytes_len]; simp; omega
  rw [gE_long (ls := ls) (pri := pri) hr hn hl hp (obytes ls k n pri l p ++ [x]) (r ++ [x]) (by rw [e]; rfl) (by rw [hlen]; omega), hlen, if_neg (by omega)]
theorem isb_obytes {ls : Bool} {k n pri : Int} {l p : ByteArray} (hr : rightB k n = true) : IsB (obytes ls k n pri l p) := by
  have hk := right_k hr
  intro x hx
  simp only [obytes, List.mem_append] at hx
  rcases hx with ((((((hx | hx) | hx) | hx) | hx) | hx) | hx) | hx
  · simp at hx; omega
  · cases ls <;> simp at hx <;> omega
  · simp at hx; omega
  · simp at hx; omega
  · simp at hx; omega
  · simp at hx; omega
  · exact sb_isb l x hx
  · exact sb_isb p x hx
end Go.Proofs.YtdbndinnakkloaaDoor.Dcp
