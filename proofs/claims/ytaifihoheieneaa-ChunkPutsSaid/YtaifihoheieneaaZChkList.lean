/- Rows of gaps, of numbers, of skips. Conditions: each names its blocks. -/
import Derived.Test.YtaifihoheieneaaZChkRead4
namespace Go.Proofs.Ytaifihoheieneaa.Chk
open Go.RowKit Go.Proofs.Ytaifihoheieneaa.Mem Go.Proofs.Ytaifihoheieneaa.Octet Go.Proofs.Ytaifihoheieneaa.Prm
set_option linter.unusedVariables false
set_option linter.unusedSimpArgs false
attribute [local go_sem ↓] Go.wp_at_zero Go.wp_at_succ
def scells (ss : List (Int × Bool × Int)) : List Value := ss.flatMap fun s => [.int .u16 s.1, .bool s.2.1, .int .u32 s.2.2]
def gcells (ss : List (Int × Int)) : List Value := ss.flatMap fun s => [.int .u16 s.1, .int .u16 s.2]
def dcells (ss : List Int) : List Value := ss.map fun s => .int .u32 s
theorem info_skip : (Try.prog.info? 75).map (fun i => (i.zero, i.size, i.bytes)) = some (some (.agg #[.int .u16 0, .bool false, .int .u32 0]), 3, 8) := by kernel_rfl
theorem info_gap : (Try.prog.info? 73).map (fun i => (i.zero, i.size, i.bytes)) = some (some (.agg #[.int .u16 0, .int .u16 0]), 2, 4) := by kernel_rfl
theorem info_u32 : (Try.prog.info? 23).map (fun i => (i.zero, i.size, i.bytes)) = some (some (.int .u32 0), 1, 4) := by kernel_rfl
theorem info_of {t : TypeId} {z : Value} {n b : Nat} (h : (Try.prog.info? t).map (fun i => (i.zero, i.size, i.bytes)) = some (some z, n, b)) : ∃ i, Try.prog.info? t = some i ∧ i.zero = some z ∧ i.size = n ∧ i.bytes = b := by
  cases hq : Try.prog.info? t with
  | none => rw [hq] at h; simp at h
  | some i => rw [hq] at h; simp at h; exact ⟨i, rfl, h.1, h.2.1, h.2.2⟩
theorem scells_snoc (ss : List (Int × Bool × Int)) (s : Int × Bool × Int) : scells (ss ++ [s]) = scells ss ++ [.int .u16 s.1, .bool s.2.1, .int .u32 s.2.2] := by simp [scells]
theorem gcells_snoc (ss : List (Int × Int)) (s : Int × Int) : gcells (ss ++ [s]) = gcells ss ++ [.int .u16 s.1, .int .u16 s.2] := by simp [gcells]
theorem dcells_snoc (ss : List Int) (s : Int) : dcells (ss ++ [s]) = dcells ss ++ [.int .u32 s] := by simp [dcells]
theorem flat_at {α : Type} (f : α → List Value) (n : Nat) (hf : ∀ a, (f a).length = n) : ∀ (l : List α) (i : Nat) (h : i < l.length) (j : Nat), j < n → (l.flatMap f)[i * n + j]? = (f l[i])[j]?
  | a :: l, 0, _, j, hj => by
    rw [List.flatMap_cons, Nat.zero_mul, Nat.zero_add, List.getElem?_append_left (by rw [hf]; exact hj)]
    rfl
  | a :: l, i + 1, h, j, hj => by
    have e : (i + 1) * n + j = i * n + j + (f a).length := by rw [hf, Nat.add_mul]; omega
    rw [List.flatMap_cons, e, List.getElem?_append_right (by omega), Nat.add_sub_cancel]
    exact flat_at f n hf l i (by simpa using h) j hj
theorem row_form {w : World} {base : Nat} {e : TypeId} {size : Nat} {v : Value} {n : Nat} {xs : List Value} (h : w.ownsRow base e size v n xs) : ∃ A c, v = .slice A n c := by
  rcases h.2 with ⟨rfl, h0⟩ | ⟨g, cap, cur, rfl, _⟩
  · exact ⟨none, 0, by rw [h0]⟩
  · exact ⟨_, cap, rfl⟩
theorem own_skp {w : World} {base : Nat} {A : Option Addr} {p : Nat} {ss : List (Int × Bool × Int)} (h : w.ownsRow base 75 3 (.slice A ss.length p) ss.length (scells ss)) : SkpC w base w.heap.size A ss := by
  intro i hi
  have hk := fun k => h.lt k
  rcases h.2 with ⟨_, h0⟩ | ⟨g, cap, cur, e1, hb, hg, rest⟩
  · omega
  · injection e1 with e1 e2 e3
    subst e1
    have hc := h.cells (g := g) rfl
    have f0 := flat_at (fun s : Int × Bool × Int => [Value.int .u16 s.1, .bool s.2.1, .int .u32 s.2.2]) 3 (fun _ => rfl) ss i hi
    refine ⟨_, rfl, hb, (Array.getElem?_eq_some_iff.1 hg).1, ?_, ?_, ?_⟩
    · have := hc (i * 3) _ (f0 0 (by omega)); simpa using this
    · rw [add_add']; have := hc (i * 3 + 1) _ (f0 1 (by omega)); simpa using this
    · rw [add_add']; have := hc (i * 3 + 2) _ (f0 2 (by omega)); simpa using this
theorem own_gap {w : World} {base : Nat} {A : Option Addr} {p : Nat} {ss : List (Int × Int)} (h : w.ownsRow base 73 2 (.slice A ss.length p) ss.length (gcells ss)) : GapC w base w.heap.size A ss := by
  intro i hi
  rcases h.2 with ⟨_, h0⟩ | ⟨g, cap, cur, e1, hb, hg, rest⟩
  · omega
  · injection e1 with e1 e2 e3
    subst e1
    have hc := h.cells (g := g) rfl
    have f0 := flat_at (fun s : Int × Int => [Value.int .u16 s.1, .int .u16 s.2]) 2 (fun _ => rfl) ss i hi
    refine ⟨_, rfl, hb, (Array.getElem?_eq_some_iff.1 hg).1, ?_, ?_⟩
    · have := hc (i * 2) _ (f0 0 (by omega)); simpa using this
    · rw [add_add']; have := hc (i * 2 + 1) _ (f0 1 (by omega)); simpa using this
theorem own_dup {w : World} {base : Nat} {A : Option Addr} {p : Nat} {ss : List Int} (h : w.ownsRow base 23 1 (.slice A ss.length p) ss.length (dcells ss)) : DupC w base w.heap.size A ss := by
  intro i hi
  rcases h.2 with ⟨_, h0⟩ | ⟨g, cap, cur, e1, hb, hg, rest⟩
  · omega
  · injection e1 with e1 e2 e3
    subst e1
    have hc := h.cells (g := g) rfl
    refine ⟨_, rfl, hb, (Array.getElem?_eq_some_iff.1 hg).1, ?_⟩
    have := hc i (.int .u32 ss[i]) (by simp [dcells, hi]); simpa using this
theorem SkpC.low {w : World} {lo lo' hi : Nat} {A : Option Addr} {gs : List (Int × Bool × Int)} (h : SkpC w lo hi A gs) (hl : lo' ≤ lo) : SkpC w lo' hi A gs := fun i hi => by
  obtain ⟨ad, e, h1, h2⟩ := h i hi
  exact ⟨ad, e, by omega, h2⟩
theorem GapC.low {w : World} {lo lo' hi : Nat} {A : Option Addr} {gs : List (Int × Int)} (h : GapC w lo hi A gs) (hl : lo' ≤ lo) : GapC w lo' hi A gs := fun i hi => by
  obtain ⟨ad, e, h1, h2⟩ := h i hi
  exact ⟨ad, e, by omega, h2⟩
theorem DupC.low {w : World} {lo lo' hi : Nat} {A : Option Addr} {gs : List Int} (h : DupC w lo hi A gs) (hl : lo' ≤ lo) : DupC w lo' hi A gs := fun i hi => by
  obtain ⟨ad, e, h1, h2⟩ := h i hi
  exact ⟨ad, e, by omega, h2⟩
theorem skipsAt_snoc (xs : List Int) (n : Nat) : skipsAt xs (n + 1) = skipsAt xs n ++ [(at2 xs (4 + 4 * n), false, at2 xs (4 + 4 * n + 2))] := by simp [skipsAt, List.range_succ]
theorem skipsIt_snoc (xs : List Int) (n : Nat) : skipsIt xs (n + 1) = skipsIt xs n ++ [(at2 xs (4 + 8 * n), at2 xs (4 + 8 * n + 2) == 1, at4 xs (4 + 8 * n + 4))] := by simp [skipsIt, List.range_succ]
theorem gapsAt_snoc (xs : List Int) (m n : Nat) : gapsAt xs m (n + 1) = gapsAt xs m n ++ [(at2 xs (m + 4 * n), at2 xs (m + 4 * n + 2))] := by simp [gapsAt, List.range_succ]
theorem dupsAt_snoc (xs : List Int) (m n : Nat) : dupsAt xs m (n + 1) = dupsAt xs m n ++ [at4 xs (m + 4 * n)] := by simp [dupsAt, List.range_succ]
theorem skipsAt_len (xs : List Int) (n : Nat) : (skipsAt xs n).length = n := by simp [skipsAt]
theorem skipsIt_len (xs : List Int) (n : Nat) : (skipsIt xs n).length = n := by simp [skipsIt]
theorem gapsAt_len (xs : List Int) (m n : Nat) : (gapsAt xs m n).length = n := by simp [gapsAt]
theorem dupsAt_len (xs : List Int) (m n : Nat) : (dupsAt xs m n).length = n := by simp [dupsAt]
theorem sz_of {gX gR gC lo hi : Nat} {w0 w : World} {bs : List Int} {bb bad : Bool} {cs : Array Value} (H : Rg w0 w gX gR gC lo hi bs bb bad cs) : w0.heap.size ≤ w.heap.size := H.t.size
end Go.Proofs.Ytaifihoheieneaa.Chk
