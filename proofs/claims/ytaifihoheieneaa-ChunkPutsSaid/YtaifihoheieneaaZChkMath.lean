/- Chunks, their bytes, and how they lie in memory. Plain facts. -/
import Derived.Test.YtaifihoheieneaaZPrmMath
import Derived.Test.YtaifihoheieneaaZMem
namespace Go.Proofs.Ytaifihoheieneaa.Chk
open Go.RowKit Go.Proofs.Ytaifihoheieneaa.Mem Go.Proofs.Ytaifihoheieneaa.Octet Go.Proofs.Ytaifihoheieneaa.Prm
set_option linter.unusedVariables false
set_option linter.unusedSimpArgs false
/-- A chunk. -/
structure Ck where
  k : Int
  b : Bool
  e : Bool
  l : Bool
  r : Bool
  tsn : Int
  st : Int
  mid : Int
  pp : Int
  fr : Int
  tag : Int
  win : Int
  out : Int
  inn : Int
  gaps : List (Int × Int)
  dups : List Int
  skips : List (Int × Bool × Int)
  ps : List Pm
  body : List Int
/-- The cells of a chunk of noughts. -/
abbrev zch : Array Value := #[.int .u8 0, .bool false, .bool false, .bool false, .bool false, .int .u32 0, .int .u16 0, .int .u32 0, .int .u32 0, .int .u32 0, .int .u32 0, .int .u32 0, .int .u16 0, .int .u16 0, .slice none 0 0, .slice none 0 0, .slice none 0 0, .slice none 0 0, .slice none 0 0]
/-- A flag's bit. -/
def bt (is : Bool) (v : Int) : Int := if is then v else 0
def b16 (x : Int) : List Int := [x / 256 % 256, x % 256]
def b32 (x : Int) : List Int := [x / 16777216 % 256, x / 65536 % 256, x / 256 % 256, x % 256]
theorem b16_len (x : Int) : (b16 x).length = 2 := rfl
theorem b32_len (x : Int) : (b32 x).length = 4 := rfl
def gB (gs : List (Int × Int)) : List Int := gs.flatMap fun g => b16 g.1 ++ b16 g.2
def dB (ds : List Int) : List Int := ds.flatMap b32
def sB (ss : List (Int × Bool × Int)) : List Int := ss.flatMap fun s => b16 s.1 ++ b16 (s.2.2 % 65536)
def tB (ss : List (Int × Bool × Int)) : List Int := ss.flatMap fun s => b16 s.1 ++ b16 (bt s.2.1 1) ++ b32 s.2.2
theorem gB_len (gs : List (Int × Int)) : (gB gs).length = gs.length * 4 := by
  induction gs with
  | nil => rfl
  | cons g gs ih =>
    show (b16 g.1 ++ b16 g.2 ++ gB gs).length = (gs.length + 1) * 4
    simp only [List.length_append, b16_len]; omega
theorem dB_len (ds : List Int) : (dB ds).length = ds.length * 4 := by
  induction ds with
  | nil => rfl
  | cons g gs ih =>
    show (b32 g ++ dB gs).length = (gs.length + 1) * 4
    simp only [List.length_append, b32_len]; omega
theorem sB_len (ss : List (Int × Bool × Int)) : (sB ss).length = ss.length * 4 := by
  induction ss with
  | nil => rfl
  | cons g gs ih =>
    show (b16 g.1 ++ b16 (g.2.2 % 65536) ++ sB gs).length = (gs.length + 1) * 4
    simp only [List.length_append, b16_len]; omega
theorem tB_len (ss : List (Int × Bool × Int)) : (tB ss).length = ss.length * 8 := by
  induction ss with
  | nil => rfl
  | cons g gs ih =>
    show (b16 g.1 ++ b16 (bt g.2.1 1) ++ b32 g.2.2 ++ tB gs).length = (gs.length + 1) * 8
    simp only [List.length_append, b16_len, b32_len]; omega
theorem gB_take (gs : List (Int × Int)) (i : Nat) (h : i < gs.length) : gB (gs.take (i + 1)) = gB (gs.take i) ++ b16 gs[i].1 ++ b16 gs[i].2 := by
  unfold gB; rw [List.take_add_one, List.getElem?_eq_getElem h, List.flatMap_append]; simp [List.append_assoc]
theorem dB_take (gs : List Int) (i : Nat) (h : i < gs.length) : dB (gs.take (i + 1)) = dB (gs.take i) ++ b32 gs[i] := by
  unfold dB; rw [List.take_add_one, List.getElem?_eq_getElem h, List.flatMap_append]; simp
theorem sB_take (gs : List (Int × Bool × Int)) (i : Nat) (h : i < gs.length) : sB (gs.take (i + 1)) = sB (gs.take i) ++ b16 gs[i].1 ++ b16 (gs[i].2.2 % 65536) := by
  unfold sB; rw [List.take_add_one, List.getElem?_eq_getElem h, List.flatMap_append]; simp [List.append_assoc]
theorem tB_take (gs : List (Int × Bool × Int)) (i : Nat) (h : i < gs.length) : tB (gs.take (i + 1)) = tB (gs.take i) ++ b16 gs[i].1 ++ b16 (bt gs[i].2.1 1) ++ b32 gs[i].2.2 := by
  unfold tB; rw [List.take_add_one, List.getElem?_eq_getElem h, List.flatMap_append]; simp [List.append_assoc]
/-- The kinds that are known. -/
def kn (k : Int) : Bool := [0, 1, 2, 3, 4, 5, 6, 7, 8, 9, 10, 11, 14, 64, 130, 192, 194].contains k
/-- The flags. -/
def fl (c : Ck) : Int := if c.k = 0 ∨ c.k = 64 then bt c.e 1 + bt c.b 2 + bt c.l 4 else if c.k = 6 ∨ c.k = 14 then bt c.r 1 else 0
/-- The body's bytes and error. -/
def bB (c : Ck) : List Int :=
  if c.k = 0 then b32 c.tsn ++ b16 c.st ++ b16 (c.mid % 65536) ++ b32 c.pp ++ c.body
  else if c.k = 64 then b32 c.tsn ++ b16 c.st ++ b16 0 ++ b32 c.mid ++ b32 (if c.b then c.pp else c.fr) ++ c.body
  else if c.k = 3 then b32 c.tsn ++ b32 c.win ++ b16 c.gaps.length ++ b16 c.dups.length ++ gB c.gaps ++ dB c.dups
  else if c.k = 4 ∨ c.k = 5 ∨ c.k = 10 then c.body
  else if c.k = 7 then b32 c.tsn
  else if c.k = 192 then b32 c.tsn ++ sB c.skips
  else if c.k = 194 then b32 c.tsn ++ tB c.skips
  else if c.k = 1 ∨ c.k = 2 then b32 c.tag ++ b32 c.win ++ b16 c.out ++ b16 c.inn ++ b32 c.tsn ++ enc c.ps
  else if c.k = 6 ∨ c.k = 9 ∨ c.k = 130 then enc c.ps
  else []
def bE (c : Ck) : Int :=
  if c.k = 0 ∨ c.k = 64 then (if c.body = [] then 42 else 0)
  else if c.k = 3 then (if 65535 < c.gaps.length ∨ 65535 < c.dups.length then 43 else 0)
  else if c.k = 1 ∨ c.k = 2 ∨ c.k = 6 ∨ c.k = 9 ∨ c.k = 130 then (if allFit c.ps then 0 else 43)
  else 0
/-- A chunk's error and bytes. -/
def cE (c : Ck) : Int := if kn c.k = false then 60 else if bE c ≠ 0 then bE c else if 65535 < (bB c).length + 4 then 43 else 0
def cB (c : Ck) : List Int := [c.k, fl c] ++ b16 ((bB c).length + 4 : Nat) ++ bB c ++ List.replicate ((4 - ((bB c).length + 4) % 4) % 4) 0
/-- Lists in memory. -/
def GapC (w : World) (lo hi : Nat) (A : Option Addr) (gs : List (Int × Int)) : Prop :=
  ∀ i (h : i < gs.length), ∃ ad, A = some ad ∧ lo ≤ ad.block ∧ ad.block < hi ∧ w.cell? (ad.add (i * 2)) = some (.int .u16 gs[i].1) ∧ w.cell? ((ad.add (i * 2)).add 1) = some (.int .u16 gs[i].2)
def DupC (w : World) (lo hi : Nat) (A : Option Addr) (gs : List Int) : Prop :=
  ∀ i (h : i < gs.length), ∃ ad, A = some ad ∧ lo ≤ ad.block ∧ ad.block < hi ∧ w.cell? (ad.add i) = some (.int .u32 gs[i])
def SkpC (w : World) (lo hi : Nat) (A : Option Addr) (gs : List (Int × Bool × Int)) : Prop :=
  ∀ i (h : i < gs.length), ∃ ad, A = some ad ∧ lo ≤ ad.block ∧ ad.block < hi ∧ w.cell? (ad.add (i * 3)) = some (.int .u16 gs[i].1) ∧ w.cell? ((ad.add (i * 3)).add 1) = some (.bool gs[i].2.1) ∧ w.cell? ((ad.add (i * 3)).add 2) = some (.int .u32 gs[i].2.2)
theorem cell_fr {w w' : World} {S : Nat → Prop} (f : Fr S w w') {p : Addr} {v : Value} (hc : w.cell? p = some v) (hs : ¬ S p.block) : w'.cell? p = some v :=
  (World.cell?_of_block (f.block _ (World.block_lt_of_cell? w _ hc) hs)).trans hc
theorem GapC.fr {w w' : World} {lo hi : Nat} {A : Option Addr} {gs : List (Int × Int)} {S : Nat → Prop} (h : GapC w lo hi A gs) (f : Fr S w w') (hs : ∀ k, lo ≤ k → k < hi → ¬ S k) : GapC w' lo hi A gs := by
  intro i hi'
  obtain ⟨ad, e, h1, h2, h3, h4⟩ := h i hi'
  exact ⟨ad, e, h1, h2, cell_fr f h3 (by rw [add_block]; exact hs _ h1 h2), cell_fr f h4 (by rw [add_block, add_block]; exact hs _ h1 h2)⟩
theorem DupC.fr {w w' : World} {lo hi : Nat} {A : Option Addr} {gs : List Int} {S : Nat → Prop} (h : DupC w lo hi A gs) (f : Fr S w w') (hs : ∀ k, lo ≤ k → k < hi → ¬ S k) : DupC w' lo hi A gs := by
  intro i hi'
  obtain ⟨ad, e, h1, h2, h3⟩ := h i hi'
  exact ⟨ad, e, h1, h2, cell_fr f h3 (by rw [add_block]; exact hs _ h1 h2)⟩
theorem SkpC.fr {w w' : World} {lo hi : Nat} {A : Option Addr} {gs : List (Int × Bool × Int)} {S : Nat → Prop} (h : SkpC w lo hi A gs) (f : Fr S w w') (hs : ∀ k, lo ≤ k → k < hi → ¬ S k) : SkpC w' lo hi A gs := by
  intro i hi'
  obtain ⟨ad, e, h1, h2, h3, h4, h5⟩ := h i hi'
  exact ⟨ad, e, h1, h2, cell_fr f h3 (by rw [add_block]; exact hs _ h1 h2), cell_fr f h4 (by rw [add_block, add_block]; exact hs _ h1 h2), cell_fr f h5 (by rw [add_block, add_block]; exact hs _ h1 h2)⟩
/-- A chunk as cells, its lists in blocks from lo on, below hi. -/
structure CkV (w : World) (lo hi : Nat) (cs : Array Value) (c : Ck) : Prop where
  size : cs.size = 19
  one : cs.all (·.oneCell') = true
  c0 : cs[0]? = some (.int .u8 c.k)
  c1 : cs[1]? = some (.bool c.b)
  c2 : cs[2]? = some (.bool c.e)
  c3 : cs[3]? = some (.bool c.l)
  c4 : cs[4]? = some (.bool c.r)
  c5 : cs[5]? = some (.int .u32 c.tsn)
  c6 : cs[6]? = some (.int .u16 c.st)
  c7 : cs[7]? = some (.int .u32 c.mid)
  c8 : cs[8]? = some (.int .u32 c.pp)
  c9 : cs[9]? = some (.int .u32 c.fr)
  c10 : cs[10]? = some (.int .u32 c.tag)
  c11 : cs[11]? = some (.int .u32 c.win)
  c12 : cs[12]? = some (.int .u16 c.out)
  c13 : cs[13]? = some (.int .u16 c.inn)
  c14 : ∃ A p, cs[14]? = some (.slice A c.gaps.length p) ∧ GapC w lo hi A c.gaps
  c15 : ∃ A p, cs[15]? = some (.slice A c.dups.length p) ∧ DupC w lo hi A c.dups
  c16 : ∃ A p, cs[16]? = some (.slice A c.skips.length p) ∧ SkpC w lo hi A c.skips
  c17 : ∃ A p, cs[17]? = some (.slice A c.ps.length p) ∧ PmC w lo hi A c.ps
  c18 : ∃ A p, cs[18]? = some (.slice A c.body.length p) ∧ SlB w lo hi (.slice A c.body.length p) c.body
theorem CkV.fr {w w' : World} {lo hi : Nat} {cs : Array Value} {c : Ck} {S : Nat → Prop} (h : CkV w lo hi cs c) (f : Fr S w w') (hs : ∀ k, lo ≤ k → k < hi → ¬ S k) : CkV w' lo hi cs c := by
  obtain ⟨A14, p14, e14, h14⟩ := h.c14
  obtain ⟨A15, p15, e15, h15⟩ := h.c15
  obtain ⟨A16, p16, e16, h16⟩ := h.c16
  obtain ⟨A17, p17, e17, h17⟩ := h.c17
  obtain ⟨A18, p18, e18, h18⟩ := h.c18
  exact { h with c14 := ⟨A14, p14, e14, h14.fr f hs⟩, c15 := ⟨A15, p15, e15, h15.fr f hs⟩, c16 := ⟨A16, p16, e16, h16.fr f hs⟩, c17 := ⟨A17, p17, e17, h17.fr f hs⟩, c18 := ⟨A18, p18, e18, h18.fr f hs⟩ }
theorem CkV.bl {w w' : World} {lo hi base : Nat} {cs : Array Value} {c : Ck} (h : CkV w lo hi cs c) (f : Below base w w') (hb : hi ≤ base) : CkV w' lo hi cs c :=
  h.fr (Bl.fr f) (fun k _ h2 h3 => by omega)
/-- A chunk's numbers within their bounds. -/
structure CkB (c : Ck) : Prop where
  k : 0 ≤ c.k ∧ c.k < 256
  tsn : 0 ≤ c.tsn ∧ c.tsn < 4294967296
  st : 0 ≤ c.st ∧ c.st < 65536
  mid : 0 ≤ c.mid ∧ c.mid < 4294967296
  pp : 0 ≤ c.pp ∧ c.pp < 4294967296
  fr : 0 ≤ c.fr ∧ c.fr < 4294967296
  tag : 0 ≤ c.tag ∧ c.tag < 4294967296
  win : 0 ≤ c.win ∧ c.win < 4294967296
  out : 0 ≤ c.out ∧ c.out < 65536
  inn : 0 ≤ c.inn ∧ c.inn < 65536
  gaps : ∀ g ∈ c.gaps, (0 ≤ g.1 ∧ g.1 < 65536) ∧ 0 ≤ g.2 ∧ g.2 < 65536
  dups : ∀ g ∈ c.dups, 0 ≤ g ∧ g < 4294967296
  skips : ∀ g ∈ c.skips, (0 ≤ g.1 ∧ g.1 < 65536) ∧ 0 ≤ g.2.2 ∧ g.2.2 < 4294967296
  ps : ∀ p ∈ c.ps, InB p
  body : IsB c.body
/-- Lists that are not too long for a machine. -/
structure CkL (c : Ck) : Prop where
  gaps : c.gaps.length ≤ 1000000000
  dups : c.dups.length ≤ 1000000000
  skips : c.skips.length ≤ 1000000000
  ps : (enc c.ps).length ≤ 1000000000
  pl : c.ps.length ≤ 1000000000
  body : c.body.length ≤ 1000000000
theorem bB_len {c : Ck} (h : CkL c) : (bB c).length ≤ 10000000000 := by
  have h1 := h.gaps
  have h2 := h.dups
  have h3 := h.skips
  have h4 := h.ps
  have h5 := h.body
  unfold bB
  repeat' split
  all_goals (try simp only [List.length_append, b16_len, b32_len, gB_len, dB_len, sB_len, tB_len, List.length_nil])
  all_goals omega
end Go.Proofs.Ytaifihoheieneaa.Chk
namespace Go.Proofs.Ytaifihoheieneaa.Mem
set_option linter.unusedVariables false
open Go.RowKit
/-- A slice of whole numbers within the data of an argument. -/
theorem sees_ints {P : Program} {w : World} {t e : TypeId} {k : IntKind} {A : Option Addr} {len cap : Nat} (ht : P.underlying t = some (.slice e)) (he : P.underlying e = some (.int k)) (hc : P.cellsOf e = 1) (h : Sees P w t [.slice A len cap]) :
    ∃ l : List Int, len = l.length ∧ ReadsI w k A l ∧ l.length ≤ cap ∧ cap ≤ maxLen ∧ (∀ x ∈ l, (Lit.int k x).wf = true) ∧ (A = none → cap = 0) := by
  rcases sees_slice ht h with h | ⟨a, len', cap', h, hl, hm, hx⟩
  · injection h with h _
    injection h with h1 h2 h3
    subst h1; subst h2; subst h3
    exact ⟨[], rfl, .inl rfl, Nat.le_refl _, Nat.zero_le _, (fun x hx => by simp at hx), fun _ => rfl⟩
  · injection h with h _
    injection h with h1 h2 h3
    subst h1; subst h2; subst h3
    have key : ∀ i, i < len → ∃ x : Int, w.cell? (a.add i) = some (.int k x) ∧ (Lit.int k x).wf = true := by
      intro i hi
      obtain ⟨cs, h1, h2, h3⟩ := hx i hi
      obtain ⟨n, rfl, hn⟩ := sees_int he h3
      have d := h2 0 _ rfl
      rw [add_zero_, hc, Nat.mul_one] at d
      exact ⟨n, d, hn⟩
    obtain ⟨l, e1, hl2⟩ := list_of key
    refine ⟨l, e1.symm, .inr ⟨a, rfl, fun i hi => (hl2 i hi).1⟩, by omega, hm, fun x hx => ?_, fun h => by cases h⟩
    obtain ⟨i, hi, rfl⟩ := List.getElem_of_mem hx
    exact (hl2 i hi).2
end Go.Proofs.Ytaifihoheieneaa.Mem
namespace Go.Proofs.Ytaifihoheieneaa.Chk
open Go.RowKit Go.Proofs.Ytaifihoheieneaa.Mem Go.Proofs.Ytaifihoheieneaa.Octet Go.Proofs.Ytaifihoheieneaa.Prm
set_option linter.unusedVariables false
set_option linter.unusedSimpArgs false
theorem rng16 {x : Int} (h : (Lit.int .u16 x).wf = true) : 0 ≤ x ∧ x < 65536 := by simp [Lit.wf, IntKind.min, IntKind.max, IntKind.bits, IntKind.signed] at h; omega
theorem rng32 {x : Int} (h : (Lit.int .u32 x).wf = true) : 0 ≤ x ∧ x < 4294967296 := by simp [Lit.wf, IntKind.min, IntKind.max, IntKind.bits, IntKind.signed] at h; omega
theorem dup_of {w : World} {A : Option Addr} {l : List Int} (h : ReadsI w .u32 A l) : DupC w 0 w.heap.size A l := fun i hi => by
  rcases h with rfl | ⟨a, rfl, h⟩
  · cases hi
  · have := h i hi
    have hb := World.block_lt_of_cell? w _ this
    rw [add_block] at hb
    exact ⟨a, rfl, Nat.zero_le _, hb, this⟩
set_option maxRecDepth 100000 in
theorem pm_of_see {w : World} {A : Option Addr} {len cap : Nat} (h : Sees Try.prog w 28 [.slice A len cap]) :
    ∃ ps : List Pm, len = ps.length ∧ PmC w 0 w.heap.size A ps ∧ (∀ p ∈ ps, InB p) ∧ len ≤ cap ∧ cap ≤ maxLen := by
  rcases sees_slice Try.underlying28 h with h | ⟨a, len', cap', h, hl, hm, hx⟩
  · injection h with h _
    injection h with h1 h2 h3
    subst h1; subst h2; subst h3
    exact ⟨[], rfl, (fun i hi => by simp at hi), (fun p hp => by simp at hp), Nat.le_refl _, Nat.zero_le _⟩
  · injection h with h _
    injection h with h1 h2 h3
    subst h1; subst h2; subst h3
    have c2 : Try.prog.cellsOf 57 = 2 := by kernel_rfl
    have c1 : Try.prog.cellsOf 24 = 1 := by kernel_rfl
    have c3 : Try.prog.cellsOf 29 = 1 := by kernel_rfl
    have key : ∀ i, i < len → ∃ x : Pm, (a.block < w.heap.size ∧ ∃ s, w.cell? (a.add (i * 2)) = some (.int .u16 x.1) ∧ w.cell? ((a.add (i * 2)).add 1) = some s ∧ SlB w 0 w.heap.size s x.2) ∧ InB x := by
      intro i hi
      obtain ⟨cs, h1, h2, h3⟩ := hx i hi
      obtain ⟨g1, g2⟩ := sees_struct Try.underlying57 h3
      rw [c2] at h1 h2
      match cs, h1 with
      | [v0, v1], _ =>
        have f0 := g2 _ (List.Mem.head _)
        have f1 := g2 _ (List.Mem.tail _ (List.Mem.head _))
        simp only [c1, c3, List.drop, List.take] at f0 f1
        obtain ⟨n0, e0, z0⟩ := sees_int Try.underlying24 f0
        simp only [List.cons.injEq, and_true] at e0
        have e3 : ∃ A3 n3 p3, v1 = .slice A3 n3 p3 := by
          rcases sees_slice Try.underlying29 f1 with h | ⟨_, _, _, h, _⟩
          · injection h with h _; exact ⟨_, _, _, h⟩
          · injection h with h _; exact ⟨_, _, _, h⟩
        obtain ⟨A3, n3, p3, rfl⟩ := e3
        obtain ⟨l, rfl, hr, hlc, hm3, hwf, hnil⟩ := sees_ints Try.underlying29 Try.underlying5 (by kernel_rfl) f1
        subst e0
        have d0 := h2 0 _ rfl
        have d1 := h2 1 _ rfl
        rw [add_zero_] at d0
        have r0 : 0 ≤ n0 ∧ n0 < 65536 := by simp [Lit.wf, IntKind.min, IntKind.max, IntKind.bits, IntKind.signed] at z0; omega
        have hb := World.block_lt_of_cell? w _ d0
        rw [add_block] at hb
        exact ⟨(n0, l), ⟨hb, _, d0, d1, A3, p3, rfl, hlc, hm3, hnil, rdb_of hr⟩, r0.1, r0.2, (fun x hx => range_u8 x (hwf x hx))⟩
    obtain ⟨l, e, hl2⟩ := list_of key
    refine ⟨l, e.symm, fun i hi => ?_, fun p hp => ?_, hl, hm⟩
    · obtain ⟨⟨hb, s, d0, d1, d2⟩, _⟩ := hl2 i hi
      exact ⟨a, s, rfl, Nat.zero_le _, hb, d0, d1, d2⟩
    · obtain ⟨i, hi, rfl⟩ := List.getElem_of_mem hp
      exact (hl2 i hi).2
set_option maxRecDepth 100000 in
theorem gap_of_see {w : World} {A : Option Addr} {len cap : Nat} (h : Sees Try.prog w 25 [.slice A len cap]) :
    ∃ ps : List (Int × Int), len = ps.length ∧ GapC w 0 w.heap.size A ps ∧ (∀ g ∈ ps, (0 ≤ g.1 ∧ g.1 < 65536) ∧ 0 ≤ g.2 ∧ g.2 < 65536) ∧ len ≤ maxLen := by
  rcases sees_slice Try.underlying25 h with h | ⟨a, len', cap', h, hl, hm, hx⟩
  · injection h with h _
    injection h with h1 h2 h3
    subst h1; subst h2; subst h3
    exact ⟨[], rfl, (fun i hi => by simp at hi), (fun p hp => by simp at hp), Nat.zero_le _⟩
  · injection h with h _
    injection h with h1 h2 h3
    subst h1; subst h2; subst h3
    have c2 : Try.prog.cellsOf 73 = 2 := by kernel_rfl
    have c1 : Try.prog.cellsOf 24 = 1 := by kernel_rfl
    have c3 : Try.prog.cellsOf 23 = 1 := by kernel_rfl
    have c4 : Try.prog.cellsOf 4 = 1 := by kernel_rfl
    have key : ∀ i, i < len → ∃ x : (Int × Int), (a.block < w.heap.size ∧ w.cell? (a.add (i * 2)) = some (.int .u16 x.1) ∧ w.cell? ((a.add (i * 2)).add 1) = some (.int .u16 x.2)) ∧ (0 ≤ x.1 ∧ x.1 < 65536) ∧ 0 ≤ x.2 ∧ x.2 < 65536 := by
      intro i hi
      obtain ⟨cs, h1, h2, h3⟩ := hx i hi
      obtain ⟨g1, g2⟩ := sees_struct Try.underlying73 h3
      rw [c2] at h1 h2
      match cs, h1 with
      | [v0, v1], _ =>
        have f0 := g2 _ (List.Mem.head _)
        have f1 := g2 _ (List.Mem.tail _ (List.Mem.head _))
        simp only [c1, c3, c4, List.drop, List.take] at f0 f1
        obtain ⟨n0, e0, z0⟩ := sees_int Try.underlying24 f0
        obtain ⟨n1, e1, z1⟩ := sees_int Try.underlying24 f1
        simp only [List.cons.injEq, and_true] at e0 e1
        subst e0; subst e1
        have d0 := h2 0 _ rfl
        have d1 := h2 1 _ rfl
        rw [add_zero_] at d0
        have hb := World.block_lt_of_cell? w _ d0
        rw [add_block] at hb
        exact ⟨(n0, n1), ⟨hb, d0, d1⟩, rng16 z0, rng16 z1⟩
    obtain ⟨l, e, hl2⟩ := list_of key
    refine ⟨l, e.symm, fun i hi => ?_, fun p hp => ?_, Nat.le_trans hl hm⟩
    · obtain ⟨⟨hb, hd⟩, _⟩ := hl2 i hi
      exact ⟨a, rfl, Nat.zero_le _, hb, hd⟩
    · obtain ⟨i, hi, rfl⟩ := List.getElem_of_mem hp
      exact (hl2 i hi).2
set_option maxRecDepth 100000 in
theorem skp_of_see {w : World} {A : Option Addr} {len cap : Nat} (h : Sees Try.prog w 27 [.slice A len cap]) :
    ∃ ps : List (Int × Bool × Int), len = ps.length ∧ SkpC w 0 w.heap.size A ps ∧ (∀ g ∈ ps, (0 ≤ g.1 ∧ g.1 < 65536) ∧ 0 ≤ g.2.2 ∧ g.2.2 < 4294967296) ∧ len ≤ maxLen := by
  rcases sees_slice Try.underlying27 h with h | ⟨a, len', cap', h, hl, hm, hx⟩
  · injection h with h _
    injection h with h1 h2 h3
    subst h1; subst h2; subst h3
    exact ⟨[], rfl, (fun i hi => by simp at hi), (fun p hp => by simp at hp), Nat.zero_le _⟩
  · injection h with h _
    injection h with h1 h2 h3
    subst h1; subst h2; subst h3
    have c2 : Try.prog.cellsOf 75 = 3 := by kernel_rfl
    have c1 : Try.prog.cellsOf 24 = 1 := by kernel_rfl
    have c3 : Try.prog.cellsOf 23 = 1 := by kernel_rfl
    have c4 : Try.prog.cellsOf 4 = 1 := by kernel_rfl
    have key : ∀ i, i < len → ∃ x : (Int × Bool × Int), (a.block < w.heap.size ∧ w.cell? (a.add (i * 3)) = some (.int .u16 x.1) ∧ w.cell? ((a.add (i * 3)).add 1) = some (.bool x.2.1) ∧ w.cell? ((a.add (i * 3)).add 2) = some (.int .u32 x.2.2)) ∧ (0 ≤ x.1 ∧ x.1 < 65536) ∧ 0 ≤ x.2.2 ∧ x.2.2 < 4294967296 := by
      intro i hi
      obtain ⟨cs, h1, h2, h3⟩ := hx i hi
      obtain ⟨g1, g2⟩ := sees_struct Try.underlying75 h3
      rw [c2] at h1 h2
      match cs, h1 with
      | [v0, v1, v2], _ =>
        have f0 := g2 _ (List.Mem.head _)
        have f1 := g2 _ (List.Mem.tail _ (List.Mem.head _))
        have f2 := g2 _ (List.Mem.tail _ (List.Mem.tail _ (List.Mem.head _)))
        simp only [c1, c3, c4, List.drop, List.take] at f0 f1 f2
        obtain ⟨n0, e0, z0⟩ := sees_int Try.underlying24 f0
        obtain ⟨n1, e1⟩ := sees_bool Try.underlying4 f1
        obtain ⟨n2, e2, z2⟩ := sees_int Try.underlying23 f2
        simp only [List.cons.injEq, and_true] at e0 e1 e2
        subst e0; subst e1; subst e2
        have d0 := h2 0 _ rfl
        have d1 := h2 1 _ rfl
        have d2 := h2 2 _ rfl
        rw [add_zero_] at d0
        have hb := World.block_lt_of_cell? w _ d0
        rw [add_block] at hb
        exact ⟨(n0, n1, n2), ⟨hb, d0, d1, d2⟩, rng16 z0, rng32 z2⟩
    obtain ⟨l, e, hl2⟩ := list_of key
    refine ⟨l, e.symm, fun i hi => ?_, fun p hp => ?_, Nat.le_trans hl hm⟩
    · obtain ⟨⟨hb, hd⟩, _⟩ := hl2 i hi
      exact ⟨a, rfl, Nat.zero_le _, hb, hd⟩
    · obtain ⟨i, hi, rfl⟩ := List.getElem_of_mem hp
      exact (hl2 i hi).2
set_option maxHeartbeats 4000000 in
set_option maxRecDepth 100000 in
theorem ck_of_see {w : World} {cs : List Value} (h : Sees Try.prog w 31 cs) : ∃ c : Ck, CkV w 0 w.heap.size cs.toArray c ∧ CkB c ∧ (c.gaps.length ≤ maxLen ∧ c.dups.length ≤ maxLen ∧ c.skips.length ≤ maxLen ∧ c.ps.length ≤ maxLen ∧ c.body.length ≤ maxLen) := by
  obtain ⟨g1, g2⟩ := sees_struct Try.underlying31 h
  have c19 : Try.prog.cellsOf 31 = 19 := by kernel_rfl
  have m_u8 : Try.prog.cellsOf 22 = 1 := by kernel_rfl
  have m_b : Try.prog.cellsOf 4 = 1 := by kernel_rfl
  have m_u32 : Try.prog.cellsOf 23 = 1 := by kernel_rfl
  have m_u16 : Try.prog.cellsOf 24 = 1 := by kernel_rfl
  have m_g : Try.prog.cellsOf 25 = 1 := by kernel_rfl
  have m_d : Try.prog.cellsOf 26 = 1 := by kernel_rfl
  have m_s : Try.prog.cellsOf 27 = 1 := by kernel_rfl
  have m_p : Try.prog.cellsOf 28 = 1 := by kernel_rfl
  have m_y : Try.prog.cellsOf 29 = 1 := by kernel_rfl
  rw [c19] at g1
  match cs, g1 with
  | [v0, v1, v2, v3, v4, v5, v6, v7, v8, v9, v10, v11, v12, v13, v14, v15, v16, v17, v18], _ =>
    have f0 := g2 _ (List.Mem.head _)
    have f1 := g2 _ (List.Mem.tail _ (List.Mem.head _))
    have f2 := g2 _ (List.Mem.tail _ (List.Mem.tail _ (List.Mem.head _)))
    have f3 := g2 _ (List.Mem.tail _ (List.Mem.tail _ (List.Mem.tail _ (List.Mem.head _))))
    have f4 := g2 _ (List.Mem.tail _ (List.Mem.tail _ (List.Mem.tail _ (List.Mem.tail _ (List.Mem.head _)))))
    have f5 := g2 _ (List.Mem.tail _ (List.Mem.tail _ (List.Mem.tail _ (List.Mem.tail _ (List.Mem.tail _ (List.Mem.head _))))))
    have f6 := g2 _ (List.Mem.tail _ (List.Mem.tail _ (List.Mem.tail _ (List.Mem.tail _ (List.Mem.tail _ (List.Mem.tail _ (List.Mem.head _)))))))
    have f7 := g2 _ (List.Mem.tail _ (List.Mem.tail _ (List.Mem.tail _ (List.Mem.tail _ (List.Mem.tail _ (List.Mem.tail _ (List.Mem.tail _ (List.Mem.head _))))))))
    have f8 := g2 _ (List.Mem.tail _ (List.Mem.tail _ (List.Mem.tail _ (List.Mem.tail _ (List.Mem.tail _ (List.Mem.tail _ (List.Mem.tail _ (List.Mem.tail _ (List.Mem.head _)))))))))
    have f9 := g2 _ (List.Mem.tail _ (List.Mem.tail _ (List.Mem.tail _ (List.Mem.tail _ (List.Mem.tail _ (List.Mem.tail _ (List.Mem.tail _ (List.Mem.tail _ (List.Mem.tail _ (List.Mem.head _))))))))))
    have f10 := g2 _ (List.Mem.tail _ (List.Mem.tail _ (List.Mem.tail _ (List.Mem.tail _ (List.Mem.tail _ (List.Mem.tail _ (List.Mem.tail _ (List.Mem.tail _ (List.Mem.tail _ (List.Mem.tail _ (List.Mem.head _)))))))))))
    have f11 := g2 _ (List.Mem.tail _ (List.Mem.tail _ (List.Mem.tail _ (List.Mem.tail _ (List.Mem.tail _ (List.Mem.tail _ (List.Mem.tail _ (List.Mem.tail _ (List.Mem.tail _ (List.Mem.tail _ (List.Mem.tail _ (List.Mem.head _))))))))))))
    have f12 := g2 _ (List.Mem.tail _ (List.Mem.tail _ (List.Mem.tail _ (List.Mem.tail _ (List.Mem.tail _ (List.Mem.tail _ (List.Mem.tail _ (List.Mem.tail _ (List.Mem.tail _ (List.Mem.tail _ (List.Mem.tail _ (List.Mem.tail _ (List.Mem.head _)))))))))))))
    have f13 := g2 _ (List.Mem.tail _ (List.Mem.tail _ (List.Mem.tail _ (List.Mem.tail _ (List.Mem.tail _ (List.Mem.tail _ (List.Mem.tail _ (List.Mem.tail _ (List.Mem.tail _ (List.Mem.tail _ (List.Mem.tail _ (List.Mem.tail _ (List.Mem.tail _ (List.Mem.head _))))))))))))))
    have f14 := g2 _ (List.Mem.tail _ (List.Mem.tail _ (List.Mem.tail _ (List.Mem.tail _ (List.Mem.tail _ (List.Mem.tail _ (List.Mem.tail _ (List.Mem.tail _ (List.Mem.tail _ (List.Mem.tail _ (List.Mem.tail _ (List.Mem.tail _ (List.Mem.tail _ (List.Mem.tail _ (List.Mem.head _)))))))))))))))
    have f15 := g2 _ (List.Mem.tail _ (List.Mem.tail _ (List.Mem.tail _ (List.Mem.tail _ (List.Mem.tail _ (List.Mem.tail _ (List.Mem.tail _ (List.Mem.tail _ (List.Mem.tail _ (List.Mem.tail _ (List.Mem.tail _ (List.Mem.tail _ (List.Mem.tail _ (List.Mem.tail _ (List.Mem.tail _ (List.Mem.head _))))))))))))))))
    have f16 := g2 _ (List.Mem.tail _ (List.Mem.tail _ (List.Mem.tail _ (List.Mem.tail _ (List.Mem.tail _ (List.Mem.tail _ (List.Mem.tail _ (List.Mem.tail _ (List.Mem.tail _ (List.Mem.tail _ (List.Mem.tail _ (List.Mem.tail _ (List.Mem.tail _ (List.Mem.tail _ (List.Mem.tail _ (List.Mem.tail _ (List.Mem.head _)))))))))))))))))
    have f17 := g2 _ (List.Mem.tail _ (List.Mem.tail _ (List.Mem.tail _ (List.Mem.tail _ (List.Mem.tail _ (List.Mem.tail _ (List.Mem.tail _ (List.Mem.tail _ (List.Mem.tail _ (List.Mem.tail _ (List.Mem.tail _ (List.Mem.tail _ (List.Mem.tail _ (List.Mem.tail _ (List.Mem.tail _ (List.Mem.tail _ (List.Mem.tail _ (List.Mem.head _))))))))))))))))))
    have f18 := g2 _ (List.Mem.tail _ (List.Mem.tail _ (List.Mem.tail _ (List.Mem.tail _ (List.Mem.tail _ (List.Mem.tail _ (List.Mem.tail _ (List.Mem.tail _ (List.Mem.tail _ (List.Mem.tail _ (List.Mem.tail _ (List.Mem.tail _ (List.Mem.tail _ (List.Mem.tail _ (List.Mem.tail _ (List.Mem.tail _ (List.Mem.tail _ (List.Mem.tail _ (List.Mem.head _)))))))))))))))))))
    simp only [m_u8, m_b, m_u32, m_u16, m_g, m_d, m_s, m_p, m_y, List.drop, List.take] at f0 f1 f2 f3 f4 f5 f6 f7 f8 f9 f10 f11 f12 f13 f14 f15 f16 f17 f18
    obtain ⟨k, e0, z0⟩ := sees_int Try.underlying22 f0
    obtain ⟨b, e1⟩ := sees_bool Try.underlying4 f1
    obtain ⟨e, e2⟩ := sees_bool Try.underlying4 f2
    obtain ⟨l, e3⟩ := sees_bool Try.underlying4 f3
    obtain ⟨r, e4⟩ := sees_bool Try.underlying4 f4
    obtain ⟨tsn, e5, z5⟩ := sees_int Try.underlying23 f5
    obtain ⟨st, e6, z6⟩ := sees_int Try.underlying24 f6
    obtain ⟨mid, e7, z7⟩ := sees_int Try.underlying23 f7
    obtain ⟨pp, e8, z8⟩ := sees_int Try.underlying23 f8
    obtain ⟨fr, e9, z9⟩ := sees_int Try.underlying23 f9
    obtain ⟨tag, e10, z10⟩ := sees_int Try.underlying23 f10
    obtain ⟨win, e11, z11⟩ := sees_int Try.underlying23 f11
    obtain ⟨out, e12, z12⟩ := sees_int Try.underlying24 f12
    obtain ⟨inn, e13, z13⟩ := sees_int Try.underlying24 f13
    simp only [List.cons.injEq, and_true] at e0 e1 e2 e3 e4 e5 e6 e7 e8 e9 e10 e11 e12 e13
    subst e0; subst e1; subst e2; subst e3; subst e4; subst e5; subst e6; subst e7; subst e8; subst e9; subst e10; subst e11; subst e12; subst e13
    have x14 : ∃ A n p, v14 = .slice A n p := by
      rcases sees_slice Try.underlying25 f14 with h | ⟨_, _, _, h, _⟩
      · injection h with h _; exact ⟨_, _, _, h⟩
      · injection h with h _; exact ⟨_, _, _, h⟩
    obtain ⟨A14, n14, p14, rfl⟩ := x14
    have x15 : ∃ A n p, v15 = .slice A n p := by
      rcases sees_slice Try.underlying26 f15 with h | ⟨_, _, _, h, _⟩
      · injection h with h _; exact ⟨_, _, _, h⟩
      · injection h with h _; exact ⟨_, _, _, h⟩
    obtain ⟨A15, n15, p15, rfl⟩ := x15
    have x16 : ∃ A n p, v16 = .slice A n p := by
      rcases sees_slice Try.underlying27 f16 with h | ⟨_, _, _, h, _⟩
      · injection h with h _; exact ⟨_, _, _, h⟩
      · injection h with h _; exact ⟨_, _, _, h⟩
    obtain ⟨A16, n16, p16, rfl⟩ := x16
    have x17 : ∃ A n p, v17 = .slice A n p := by
      rcases sees_slice Try.underlying28 f17 with h | ⟨_, _, _, h, _⟩
      · injection h with h _; exact ⟨_, _, _, h⟩
      · injection h with h _; exact ⟨_, _, _, h⟩
    obtain ⟨A17, n17, p17, rfl⟩ := x17
    have x18 : ∃ A n p, v18 = .slice A n p := by
      rcases sees_slice Try.underlying29 f18 with h | ⟨_, _, _, h, _⟩
      · injection h with h _; exact ⟨_, _, _, h⟩
      · injection h with h _; exact ⟨_, _, _, h⟩
    obtain ⟨A18, n18, p18, rfl⟩ := x18
    obtain ⟨gs, rfl, hg, hgr, hgl⟩ := gap_of_see f14
    obtain ⟨ds, rfl, hd, hdc, hdm, hdw, hdn⟩ := sees_ints Try.underlying26 Try.underlying23 (by kernel_rfl) f15
    obtain ⟨ss, rfl, hs, hsr, hsl⟩ := skp_of_see f16
    obtain ⟨ps, rfl, hp, hpr, hpc, hpm⟩ := pm_of_see f17
    obtain ⟨ys, rfl, hy, hyc, hym, hyw, hyn⟩ := sees_ints Try.underlying29 Try.underlying5 (by kernel_rfl) f18
    refine ⟨⟨k, b, e, l, r, tsn, st, mid, pp, fr, tag, win, out, inn, gs, ds, ss, ps, ys⟩, ⟨rfl, by simp [Value.oneCell'], rfl, rfl, rfl, rfl, rfl, rfl, rfl, rfl, rfl, rfl, rfl, rfl, rfl, rfl, ⟨A14, p14, rfl, hg⟩, ⟨A15, p15, rfl, dup_of hd⟩, ⟨A16, p16, rfl, hs⟩, ⟨A17, p17, rfl, hp⟩, ⟨A18, p18, rfl, A18, p18, rfl, hyc, hym, hyn, rdb_of hy⟩⟩,
      ⟨range_u8 _ z0, rng32 z5, rng16 z6, rng32 z7, rng32 z8, rng32 z9, rng32 z10, rng32 z11, rng16 z12, rng16 z13, hgr, fun g h => rng32 (hdw g h), hsr, hpr, fun x hx => range_u8 x (hyw x hx)⟩, hgl, Nat.le_trans hdc hdm, hsl, Nat.le_trans hpc hpm, Nat.le_trans hyc hym⟩
end Go.Proofs.Ytaifihoheieneaa.Chk
namespace Go.Proofs.Ytaifihoheieneaa.Chk
open Go.RowKit Go.Proofs.Ytaifihoheieneaa.Mem Go.Proofs.Ytaifihoheieneaa.Octet Go.Proofs.Ytaifihoheieneaa.Prm
set_option linter.unusedVariables false
set_option linter.unusedSimpArgs false
/-- The sum over the parameters, as Size makes it. -/
def szP : List Pm → Int → Int
  | [], n => n
  | p :: ps, n => if 1000000 < n ∨ 1000000 < (p.2.length : Int) then 1000001 else szP ps (n + (4 + (p.2.length : Int)))
def szM (c : Ck) : Int := mx (mx (mx (mx (c.gaps.length : Int) c.dups.length) c.skips.length) c.body.length) c.ps.length
def szC (c : Ck) : Int := if 1000000 < szM c then 1000001 else szP c.ps (4 * (c.gaps.length : Int) + 4 * (c.dups.length : Int) + 8 * (c.skips.length : Int) + c.body.length)
theorem max_five (ats : Array TypeId) (ty : TypeId) (a b c d e : Value) : Builtin.max_ ats ty #[a, b, c, d, e] = (Builtin.max2 a b >>= fun s => Builtin.max2 s c >>= fun s => Builtin.max2 s d >>= fun s => Builtin.max2 s e >>= fun s => pure s) := by
  simp only [Builtin.max_, List.foldlM_cons, List.foldlM_nil]
attribute [local go_sem] max2_mx max_five
set_option maxHeartbeats 4000000 in
set_option maxRecDepth 100000 in
theorem size_calls (lo hi : Nat) (cs : Array Value) (c : Ck) (w : World) (hC : CkV w lo hi cs c) (hhi : hi ≤ w.heap.size) (hp : c.ps.length ≤ maxLen) :
    Calls Try.prog 11 #[.agg cs] w fun e w' => e = .returned (.int .i64 (szC c)) ∧ Below w.heap.size w w' := by
  have hsz := hC.size
  have B0 : Below w.heap.size w (w.alloc (.cells cs 31)) := (Below.refl _ w).alloc (Nat.le_refl _) _
  have bC := Blk.new w cs 31
  have hC1 := hC.fr (S := nothing) ((Fr.refl _ w).alloc (.cells cs 31)) (fun _ _ _ h => h)
  obtain ⟨A14, p14, e14, -⟩ := hC1.c14
  obtain ⟨A15, p15, e15, -⟩ := hC1.c15
  obtain ⟨A16, p16, e16, -⟩ := hC1.c16
  obtain ⟨A17, p17, e17, P17⟩ := hC1.c17
  obtain ⟨A18, p18, e18, -⟩ := hC1.c18
  have k14 := (bC.cell 14).trans e14
  have k15 := (bC.cell 15).trans e15
  have k16 := (bC.cell 16).trans e16
  have k17 := (bC.cell 17).trans e17
  have k18 := (bC.cell 18).trans e18
  have hsc : szC c = if 1000000 < szM c then 1000001 else szP c.ps (4 * (c.gaps.length : Int) + 4 * (c.dups.length : Int) + 8 * (c.skips.length : Int) + c.body.length) := rfl
  have hsm : szM c = mx (mx (mx (mx (c.gaps.length : Int) c.dups.length) c.skips.length) c.body.length) c.ps.length := rfl
  have mxa : ∀ a b : Int, a ≤ mx a b ∧ b ≤ mx a b := fun a b => by unfold mx; split <;> omega
  have hml : maxLen = 9223372036854775807 := rfl
  have hpm := hp
  rw [hml] at hpm
  clear hC hC1 hml
  have hle : c.gaps.length ≤ szM c ∧ c.dups.length ≤ szM c ∧ c.skips.length ≤ szM c ∧ c.body.length ≤ szM c ∧ c.ps.length ≤ szM c := by
    rw [hsm]
    have h1 := mxa (c.gaps.length : Int) c.dups.length
    have h2 := mxa (mx (c.gaps.length : Int) c.dups.length) c.skips.length
    have h3 := mxa (mx (mx (c.gaps.length : Int) c.dups.length) c.skips.length) c.body.length
    have h4 := mxa (mx (mx (mx (c.gaps.length : Int) c.dups.length) c.skips.length) c.body.length) c.ps.length
    omega
  by_cases hb : 1000000 < szM c
  · rw [hsc, if_pos hb]
    have hd : decide ((1000000 : Int) < mx (mx (mx (mx (c.gaps.length : Int) c.dups.length) c.skips.length) c.body.length) c.ps.length) = true := decide_eq_true (by rw [← hsm]; exact hb)
    clear hsc hsm hb hle mxa
    go_enter Try.func11, Try.ntmps11
    go_wp2
    go_ret
    exact ⟨rfl, B0⟩
  · rw [hsc, if_neg hb]
    have hd : decide ((1000000 : Int) < mx (mx (mx (mx (c.gaps.length : Int) c.dups.length) c.skips.length) c.body.length) c.ps.length) = false := decide_eq_false (by rw [← hsm]; exact hb)
    have l14 : c.gaps.length ≤ 1000000 := by omega
    have l15 : c.dups.length ≤ 1000000 := by omega
    have l16 : c.skips.length ≤ 1000000 := by omega
    have l18 : c.body.length ≤ 1000000 := by omega
    have l17 : c.ps.length ≤ 1000000 := by omega
    obtain ⟨S0, hS0⟩ : ∃ S0 : Int, 4 * (c.gaps.length : Int) + 4 * (c.dups.length : Int) + 8 * (c.skips.length : Int) + c.body.length = S0 := ⟨_, rfl⟩
    have hS1 : 0 ≤ S0 ∧ S0 ≤ 17000000 := by omega
    rw [hS0]
    clear hsc hsm hb hle mxa hpm hp
    go_enter Try.func11, Try.ntmps11
    go_wp2_with fail
    have HS0 := Lib.hid hS0
    go_loopw [3, 44] (fun nv i wr => ∃ (k : Nat) (n : Int), k ≤ c.ps.length ∧ i = .int .i64 k ∧ nv = .int .i64 n ∧ 0 ≤ n ∧ n ≤ 17000000 ∧ szP c.ps S0 = szP (c.ps.drop k) n ∧ PmC wr lo hi A17 c.ps ∧ Below w.heap.size w wr) (fun _ i _ => c.ps.length - (intOf i).toNat)
    case atStart => exact ⟨0, S0, Nat.zero_le _, rfl, by first | rfl | (rw [← HS0.out]; rfl) | (simp [← HS0.out]), hS1.1, hS1.2, rfl, P17, B0⟩
    case round =>
      clear P17 B0 k14 k15 k16 k17 k18 bC hd hS0 HS0
      obtain ⟨k, n, hk, rfl, rfl, hn0, hn1, hs, P, B⟩ := hrel
      have HS := Lib.hid hs
      clear hs
      by_cases hlt : k < c.ps.length
      · obtain ⟨ad, s, rfl, h1, h2, h3, h4, h5⟩ := P k hlt
        have HD := Lib.hid (show szP c.ps S0 = szP (c.ps[k] :: c.ps.drop (k + 1)) n by rw [HS.out, List.drop_eq_getElem_cons hlt])
        generalize c.ps[k] = p at h3 h5 HD
        obtain ⟨kk, xs⟩ := p
        obtain ⟨As, cs', rfl⟩ := sl_shape h5
        rw [add_add_ _ _ _ (by decide)] at h4
        have h3' : wr.cell? (ad.add (k * 2)) = some (.int .u16 kk) := h3
        have hkl : (k : Int) < c.ps.length := by omega
        have P2 := P.fr (S := nothing) ((Fr.refl _ wr).alloc (.cells #[.int .u16 kk, .slice As xs.length cs'] 57)) (fun _ _ _ h => h)
        have B2 := B.alloc B.size (.cells #[.int .u16 kk, .slice As xs.length cs'] 57)
        have HP2 := Lib.hid P2
        have HB2 := Lib.hid B2
        clear h3 h5 P2 B2 P B HS
        by_cases hb1 : 1000000 < n
        · have hd1 : decide (1000000 < n) = true := decide_eq_true hb1
          have HF := Lib.hid (show szP c.ps S0 = 1000001 by rw [HD.out]; unfold szP; rw [if_pos (.inl hb1)])
          clear hb1
          go_wp2
          go_ret
          exact ⟨by rw [HF.out]; rfl, HB2.out⟩
        · have hd1 : decide (1000000 < n) = false := decide_eq_false hb1
          by_cases hb2 : 1000000 < (xs.length : Int)
          · have hd2 : decide (1000000 < (xs.length : Int)) = true := decide_eq_true hb2
            have HF := Lib.hid (show szP c.ps S0 = 1000001 by rw [HD.out]; unfold szP; rw [if_pos (.inr hb2)])
            clear hb1 hb2
            go_wp2
            go_ret
            exact ⟨by rw [HF.out]; rfl, HB2.out⟩
          · have HF := Lib.hid (show szP c.ps S0 = szP (c.ps.drop (k + 1)) (n + (4 + (xs.length : Int))) by rw [HD.out, szP]; rw [if_neg (by intro h; rcases h with h | h; exact hb1 h; exact hb2 h)])
            have hn2 : n ≤ 1000000 := by omega
            have hx2 : (xs.length : Int) ≤ 1000000 := by omega
            clear hb1 hb2 hd1 hn1
            have hd1 : decide (1000000 < n) = false := decide_eq_false (by omega)
            have hd2 : decide (1000000 < (xs.length : Int)) = false := decide_eq_false (by omega)
            go_wp2
            go_roundw
            case rel => exact ⟨k + 1, n + (4 + (xs.length : Int)), by omega, by go_num, rfl, by omega, by omega, HF.out, HP2.out, HB2.out⟩
            case measure => simp [intOf]; omega
      · obtain rfl : k = c.ps.length := by omega
        have HF := Lib.hid (show szP c.ps S0 = n by rw [HS.out, List.drop_length]; rfl)
        have hkl : ¬ ((c.ps.length : Nat) : Int) < c.ps.length := by omega
        go_wp2
        go_ret
        exact ⟨by rw [HF.out]; rfl, B⟩
/-- Chunks that are not too great. -/
theorem szP_tot : ∀ (ps : List Pm) (n : Int), szP ps n ≤ 400000 → ∃ t : Nat, szP ps n = n + t ∧ (enc ps).length ≤ 2 * t ∧ ps.length * 4 ≤ t
  | [], n, _ => ⟨0, by simp [szP], by simp [enc], by simp⟩
  | p :: ps, n, h => by
    unfold szP at h ⊢
    split
    · rename_i hc; rw [if_pos hc] at h; omega
    · rename_i hc
      rw [if_neg hc] at h
      obtain ⟨t, h1, h2, h3⟩ := szP_tot ps _ h
      refine ⟨t + 4 + p.2.length, by rw [h1]; omega, ?_, by simp; omega⟩
      show (encP p ++ enc ps).length ≤ _
      rw [List.length_append, encP_len]
      unfold all
      omega
theorem ckl_of {c : Ck} (h : szC c ≤ 400000) : CkL c := by
  unfold szC at h
  split at h
  · omega
  · obtain ⟨t, h1, h2, h3⟩ := szP_tot _ _ h
    rw [h1] at h
    exact ⟨by omega, by omega, by omega, by omega, by omega, by omega⟩
end Go.Proofs.Ytaifihoheieneaa.Chk
