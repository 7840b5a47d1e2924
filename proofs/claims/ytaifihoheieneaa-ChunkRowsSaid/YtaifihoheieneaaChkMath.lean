/- Chunks, their bytes, and how they lie in memory. Plain facts. -/
import Derived.Test.YtaifihoheieneaaPrmGo
import Derived.Test.YtaifihoheieneaaOpr
namespace Go.Proofs.Ytaifihoheieneaa.Chk
open Go.RowKit Go.Proofs.Ytaifihoheieneaa.Mem Go.Proofs.Ytaifihoheieneaa.Octet Go.Proofs.Ytaifihoheieneaa.Prm
set_option linter.unusedVariables false
set_option linter.unusedSimpArgs false
/-- A chunk. -/
structure Ck where
  k : Int
  b : Bool
  e : Bool
  l : Bool
  r : Bool
  tsn : Int
  st : Int
  mid : Int
  pp : Int
  fr : Int
  tag : Int
  win : Int
  out : Int
  inn : Int
  gaps : List (Int × Int)
  dups : List Int
  skips : List (Int × Bool × Int)
  ps : List Pm
  body : List Int
/-- A flag's bit. -/
def bt (is : Bool) (v : Int) : Int := if is then v else 0
def b16 (x : Int) : List Int := [x / 256 % 256, x % 256]
def b32 (x : Int) : List Int := [x / 16777216 % 256, x / 65536 % 256, x / 256 % 256, x % 256]
theorem b16_len (x : Int) : (b16 x).length = 2 := rfl
theorem b32_len (x : Int) : (b32 x).length = 4 := rfl
def gB (gs : List (Int × Int)) : List Int := gs.flatMap fun g => b16 g.1 ++ b16 g.2
def dB (ds : List Int) : List Int := ds.flatMap b32
def sB (ss : List (Int × Bool × Int)) : List Int := ss.flatMap fun s => b16 s.1 ++ b16 (s.2.2 % 65536)
def tB (ss : List (Int × Bool × Int)) : List Int := ss.flatMap fun s => b16 s.1 ++ b16 (bt s.2.1 1) ++ b32 s.2.2
theorem gB_len (gs : List (Int × Int)) : (gB gs).length = gs.length * 4 := by
  induction gs with
  | nil => rfl
  | cons g gs ih =>
    show (b16 g.1 ++ b16 g.2 ++ gB gs).length = (gs.length + 1) * 4
    simp only [List.length_append, b16_len]; omega
theorem dB_len (ds : List Int) : (dB ds).length = ds.length * 4 := by
  induction ds with
  | nil => rfl
  | cons g gs ih =>
    show (b32 g ++ dB gs).length = (gs.length + 1) * 4
    simp only [List.length_append, b32_len]; omega
theorem sB_len (ss : List (Int × Bool × Int)) : (sB ss).length = ss.length * 4 := by
  induction ss with
  | nil => rfl
  | cons g gs ih =>
    show (b16 g.1 ++ b16 (g.2.2 % 65536) ++ sB gs).length = (gs.length + 1) * 4
    simp only [List.length_append, b16_len]; omega
theorem tB_len (ss : List (Int × Bool × Int)) : (tB ss).length = ss.length * 8 := by
  induction ss with
  | nil => rfl
  | cons g gs ih =>
    show (b16 g.1 ++ b16 (bt g.2.1 1) ++ b32 g.2.2 ++ tB gs).length = (gs.length + 1) * 8
    simp only [List.length_append, b16_len, b32_len]; omega
theorem gB_take (gs : List (Int × Int)) (i : Nat) (h : i < gs.length) : gB (gs.take (i + 1)) = gB (gs.take i) ++ b16 gs[i].1 ++ b16 gs[i].2 := by
  unfold gB; rw [List.take_add_one, List.getElem?_eq_getElem h, List.flatMap_append]; simp [List.append_assoc]
theorem dB_take (gs : List Int) (i : Nat) (h : i < gs.length) : dB (gs.take (i + 1)) = dB (gs.take i) ++ b32 gs[i] := by
  unfold dB; rw [List.take_add_one, List.getElem?_eq_getElem h, List.flatMap_append]; simp
theorem sB_take (gs : List (Int × Bool × Int)) (i : Nat) (h : i < gs.length) : sB (gs.take (i + 1)) = sB (gs.take i) ++ b16 gs[i].1 ++ b16 (gs[i].2.2 % 65536) := by
  unfold sB; rw [List.take_add_one, List.getElem?_eq_getElem h, List.flatMap_append]; simp [List.append_assoc]
theorem tB_take (gs : List (Int × Bool × Int)) (i : Nat) (h : i < gs.length) : tB (gs.take (i + 1)) = tB (gs.take i) ++ b16 gs[i].1 ++ b16 (bt gs[i].2.1 1) ++ b32 gs[i].2.2 := by
  unfold tB; rw [List.take_add_one, List.getElem?_eq_getElem h, List.flatMap_append]; simp [List.append_assoc]
/-- The kinds that are known. -/
def kn (k : Int) : Bool := [0, 1, 2, 3, 4, 5, 6, 7, 8, 9, 10, 11, 14, 64, 130, 192, 194].contains k
/-- The flags. -/
def fl (c : Ck) : Int := if c.k = 0 ∨ c.k = 64 then bt c.e 1 + bt c.b 2 + bt c.l 4 else if c.k = 6 ∨ c.k = 14 then bt c.r 1 else 0
/-- The body's bytes and error. -/
def bB (c : Ck) : List Int :=
  if c.k = 0 then b32 c.tsn ++ b16 c.st ++ b16 (c.mid % 65536) ++ b32 c.pp ++ c.body
  else if c.k = 64 then b32 c.tsn ++ b16 c.st ++ b16 0 ++ b32 c.mid ++ b32 (if c.b then c.pp else c.fr) ++ c.body
  else if c.k = 3 then b32 c.tsn ++ b32 c.win ++ b16 c.gaps.length ++ b16 c.dups.length ++ gB c.gaps ++ dB c.dups
  else if c.k = 4 ∨ c.k = 5 ∨ c.k = 10 then c.body
  else if c.k = 7 then b32 c.tsn
  else if c.k = 192 then b32 c.tsn ++ sB c.skips
  else if c.k = 194 then b32 c.tsn ++ tB c.skips
  else if c.k = 1 ∨ c.k = 2 then b32 c.tag ++ b32 c.win ++ b16 c.out ++ b16 c.inn ++ b32 c.tsn ++ enc c.ps
  else if c.k = 6 ∨ c.k = 9 ∨ c.k = 130 then enc c.ps
  else []
def bE (c : Ck) : Int :=
  if c.k = 0 ∨ c.k = 64 then (if c.body = [] then 42 else 0)
  else if c.k = 3 then (if 65535 < c.gaps.length ∨ 65535 < c.dups.length then 43 else 0)
  else if c.k = 1 ∨ c.k = 2 ∨ c.k = 6 ∨ c.k = 9 ∨ c.k = 130 then (if allFit c.ps then 0 else 43)
  else 0
/-- A chunk's error and bytes. -/
def cE (c : Ck) : Int := if kn c.k = false then 60 else if bE c ≠ 0 then bE c else if 65535 < (bB c).length + 4 then 43 else 0
def cB (c : Ck) : List Int := [c.k, fl c] ++ b16 ((bB c).length + 4 : Nat) ++ bB c ++ List.replicate ((4 - ((bB c).length + 4) % 4) % 4) 0
/-- Lists in memory. -/
def GapC (w : World) (lo hi : Nat) (A : Option Addr) (gs : List (Int × Int)) : Prop :=
  ∀ i (h : i < gs.length), ∃ ad, A = some ad ∧ lo ≤ ad.block ∧ ad.block < hi ∧ w.cell? (ad.add (i * 2)) = some (.int .u16 gs[i].1) ∧ w.cell? ((ad.add (i * 2)).add 1) = some (.int .u16 gs[i].2)
def DupC (w : World) (lo hi : Nat) (A : Option Addr) (gs : List Int) : Prop :=
  ∀ i (h : i < gs.length), ∃ ad, A = some ad ∧ lo ≤ ad.block ∧ ad.block < hi ∧ w.cell? (ad.add i) = some (.int .u32 gs[i])
def SkpC (w : World) (lo hi : Nat) (A : Option Addr) (gs : List (Int × Bool × Int)) : Prop :=
  ∀ i (h : i < gs.length), ∃ ad, A = some ad ∧ lo ≤ ad.block ∧ ad.block < hi ∧ w.cell? (ad.add (i * 3)) = some (.int .u16 gs[i].1) ∧ w.cell? ((ad.add (i * 3)).add 1) = some (.bool gs[i].2.1) ∧ w.cell? ((ad.add (i * 3)).add 2) = some (.int .u32 gs[i].2.2)
theorem cell_fr {w w' : World} {S : Nat → Prop} (f : Fr S w w') {p : Addr} {v : Value} (hc : w.cell? p = some v) (hs : ¬ S p.block) : w'.cell? p = some v :=
  (World.cell?_of_block (f.block _ (World.block_lt_of_cell? w _ hc) hs)).trans hc
theorem GapC.fr {w w' : World} {lo hi : Nat} {A : Option Addr} {gs : List (Int × Int)} {S : Nat → Prop} (h : GapC w lo hi A gs) (f : Fr S w w') (hs : ∀ k, lo ≤ k → k < hi → ¬ S k) : GapC w' lo hi A gs := by
  intro i hi'
  obtain ⟨ad, e, h1, h2, h3, h4⟩ := h i hi'
  exact ⟨ad, e, h1, h2, cell_fr f h3 (by rw [add_block]; exact hs _ h1 h2), cell_fr f h4 (by rw [add_block, add_block]; exact hs _ h1 h2)⟩
theorem DupC.fr {w w' : World} {lo hi : Nat} {A : Option Addr} {gs : List Int} {S : Nat → Prop} (h : DupC w lo hi A gs) (f : Fr S w w') (hs : ∀ k, lo ≤ k → k < hi → ¬ S k) : DupC w' lo hi A gs := by
  intro i hi'
  obtain ⟨ad, e, h1, h2, h3⟩ := h i hi'
  exact ⟨ad, e, h1, h2, cell_fr f h3 (by rw [add_block]; exact hs _ h1 h2)⟩
theorem SkpC.fr {w w' : World} {lo hi : Nat} {A : Option Addr} {gs : List (Int × Bool × Int)} {S : Nat → Prop} (h : SkpC w lo hi A gs) (f : Fr S w w') (hs : ∀ k, lo ≤ k → k < hi → ¬ S k) : SkpC w' lo hi A gs := by
  intro i hi'
  obtain ⟨ad, e, h1, h2, h3, h4, h5⟩ := h i hi'
  exact ⟨ad, e, h1, h2, cell_fr f h3 (by rw [add_block]; exact hs _ h1 h2), cell_fr f h4 (by rw [add_block, add_block]; exact hs _ h1 h2), cell_fr f h5 (by rw [add_block, add_block]; exact hs _ h1 h2)⟩
/-- A chunk as cells, its lists in blocks from lo on, below hi. -/
structure CkV (w : World) (lo hi : Nat) (cs : Array Value) (c : Ck) : Prop where
  size : cs.size = 19
  one : cs.all (·.oneCell') = true
  c0 : cs[0]? = some (.int .u8 c.k)
  c1 : cs[1]? = some (.bool c.b)
  c2 : cs[2]? = some (.bool c.e)
  c3 : cs[3]? = some (.bool c.l)
  c4 : cs[4]? = some (.bool c.r)
  c5 : cs[5]? = some (.int .u32 c.tsn)
  c6 : cs[6]? = some (.int .u16 c.st)
  c7 : cs[7]? = some (.int .u32 c.mid)
  c8 : cs[8]? = some (.int .u32 c.pp)
  c9 : cs[9]? = some (.int .u32 c.fr)
  c10 : cs[10]? = some (.int .u32 c.tag)
  c11 : cs[11]? = some (.int .u32 c.win)
  c12 : cs[12]? = some (.int .u16 c.out)
  c13 : cs[13]? = some (.int .u16 c.inn)
  c14 : ∃ A p, cs[14]? = some (.slice A c.gaps.length p) ∧ GapC w lo hi A c.gaps
  c15 : ∃ A p, cs[15]? = some (.slice A c.dups.length p) ∧ DupC w lo hi A c.dups
  c16 : ∃ A p, cs[16]? = some (.slice A c.skips.length p) ∧ SkpC w lo hi A c.skips
  c17 : ∃ A p, cs[17]? = some (.slice A c.ps.length p) ∧ PmC w lo hi A c.ps
  c18 : ∃ A p, cs[18]? = some (.slice A c.body.length p) ∧ SlB w lo hi (.slice A c.body.length p) c.body
theorem CkV.fr {w w' : World} {lo hi : Nat} {cs : Array Value} {c : Ck} {S : Nat → Prop} (h : CkV w lo hi cs c) (f : Fr S w w') (hs : ∀ k, lo ≤ k → k < hi → ¬ S k) : CkV w' lo hi cs c := by
  obtain ⟨A14, p14, e14, h14⟩ := h.c14
  obtain ⟨A15, p15, e15, h15⟩ := h.c15
  obtain ⟨A16, p16, e16, h16⟩ := h.c16
  obtain ⟨A17, p17, e17, h17⟩ := h.c17
  obtain ⟨A18, p18, e18, h18⟩ := h.c18
  exact { h with c14 := ⟨A14, p14, e14, h14.fr f hs⟩, c15 := ⟨A15, p15, e15, h15.fr f hs⟩, c16 := ⟨A16, p16, e16, h16.fr f hs⟩, c17 := ⟨A17, p17, e17, h17.fr f hs⟩, c18 := ⟨A18, p18, e18, h18.fr f hs⟩ }
theorem CkV.bl {w w' : World} {lo hi base : Nat} {cs : Array Value} {c : Ck} (h : CkV w lo hi cs c) (f : Below base w w') (hb : hi ≤ base) : CkV w' lo hi cs c :=
  h.fr (Bl.fr f) (fun k _ h2 h3 => by omega)
/-- A chunk's numbers within their bounds. -/
structure CkB (c : Ck) : Prop where
  k : 0 ≤ c.k ∧ c.k < 256
  tsn : 0 ≤ c.tsn ∧ c.tsn < 4294967296
  st : 0 ≤ c.st ∧ c.st < 65536
  mid : 0 ≤ c.mid ∧ c.mid < 4294967296
  pp : 0 ≤ c.pp ∧ c.pp < 4294967296
  fr : 0 ≤ c.fr ∧ c.fr < 4294967296
  tag : 0 ≤ c.tag ∧ c.tag < 4294967296
  win : 0 ≤ c.win ∧ c.win < 4294967296
  out : 0 ≤ c.out ∧ c.out < 65536
  inn : 0 ≤ c.inn ∧ c.inn < 65536
  gaps : ∀ g ∈ c.gaps, (0 ≤ g.1 ∧ g.1 < 65536) ∧ 0 ≤ g.2 ∧ g.2 < 65536
  dups : ∀ g ∈ c.dups, 0 ≤ g ∧ g < 4294967296
  skips : ∀ g ∈ c.skips, (0 ≤ g.1 ∧ g.1 < 65536) ∧ 0 ≤ g.2.2 ∧ g.2.2 < 4294967296
  ps : ∀ p ∈ c.ps, InB p
  body : IsB c.body
/-- Lists that are not too long for a machine. -/
structure CkL (c : Ck) : Prop where
  gaps : c.gaps.length ≤ 1000000000
  dups : c.dups.length ≤ 1000000000
  skips : c.skips.length ≤ 1000000000
  ps : (enc c.ps).length ≤ 1000000000
  pl : c.ps.length ≤ 1000000000
  body : c.body.length ≤ 1000000000
theorem bB_len {c : Ck} (h : CkL c) : (bB c).length ≤ 10000000000 := by
  have h1 := h.gaps
  have h2 := h.dups
  have h3 := h.skips
  have h4 := h.ps
  have h5 := h.body
  unfold bB
  repeat' split
  all_goals (try simp only [List.length_append, b16_len, b32_len, gB_len, dB_len, sB_len, tB_len, List.length_nil])
  all_goals omega
end Go.Proofs.Ytaifihoheieneaa.Chk
