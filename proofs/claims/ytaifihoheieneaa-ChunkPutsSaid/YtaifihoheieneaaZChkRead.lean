/- What the chunk's reader reads, kind by kind. Conditions: each names its blocks. -/
import Derived.Test.YtaifihoheieneaaZChkRd
namespace Go.Proofs.Ytaifihoheieneaa.Chk
open Go.RowKit Go.Proofs.Ytaifihoheieneaa.Mem Go.Proofs.Ytaifihoheieneaa.Octet Go.Proofs.Ytaifihoheieneaa.Prm
set_option linter.unusedVariables false
set_option linter.unusedSimpArgs false
attribute [local go_sem ↓] Go.wp_at_zero Go.wp_at_succ
/-- Is a body one of its kind, under its flags? -/
def rOk (k f : Int) (xs : List Int) : Bool :=
  if k = 0 then decide (f < 8 ∧ 13 ≤ xs.length)
  else if k = 64 then decide (f < 8 ∧ 17 ≤ xs.length ∧ at2 xs 6 = 0)
  else if k = 3 then decide (f = 0 ∧ 12 ≤ xs.length ∧ (xs.length : Int) = 12 + 4 * (at2 xs 8 + at2 xs 10))
  else if k = 4 ∨ k = 5 ∨ k = 10 then decide (f = 0)
  else if k = 7 then decide (f = 0 ∧ xs.length = 4)
  else if k = 192 then decide (f = 0 ∧ 4 ≤ xs.length ∧ (xs.length - 4) % 4 = 0)
  else if k = 194 then decide (f = 0 ∧ 4 ≤ xs.length ∧ (xs.length - 4) % 8 = 0 ∧ ∀ j, j < (xs.length - 4) / 8 → at2 xs (6 + 8 * j) ≤ 1)
  else if k = 1 ∨ k = 2 then decide (f = 0 ∧ 16 ≤ xs.length ∧ (dec (xs.drop 16)).2 = 0)
  else if k = 6 then decide (f < 2 ∧ (dec xs).2 = 0)
  else if k = 14 then decide (f < 2 ∧ xs.length = 0)
  else if k = 9 ∨ k = 130 then decide (f = 0 ∧ (dec xs).2 = 0)
  else decide (f = 0 ∧ xs.length = 0)
def zC (k : Int) : Ck := ⟨k, false, false, false, false, 0, 0, 0, 0, 0, 0, 0, 0, 0, [], [], [], [], []⟩
def gapsAt (xs : List Int) (m n : Nat) : List (Int × Int) := (List.range n).map fun j => (at2 xs (m + 4 * j), at2 xs (m + 4 * j + 2))
def dupsAt (xs : List Int) (m n : Nat) : List Int := (List.range n).map fun j => at4 xs (m + 4 * j)
def skipsAt (xs : List Int) (n : Nat) : List (Int × Bool × Int) := (List.range n).map fun j => (at2 xs (4 + 4 * j), false, at2 xs (4 + 4 * j + 2))
def skipsIt (xs : List Int) (n : Nat) : List (Int × Bool × Int) := (List.range n).map fun j => (at2 xs (4 + 8 * j), at2 xs (4 + 8 * j + 2) == 1, at4 xs (4 + 8 * j + 4))
def flE (f : Int) : Bool := decide (f % 2 = 1)
def flB (f : Int) : Bool := decide (f / 2 % 2 = 1)
def flL (f : Int) : Bool := decide (f / 4 % 2 = 1)
/-- The chunk that is read. -/
def rC (k f : Int) (xs : List Int) : Ck :=
  if k = 0 then { zC k with e := flE f, b := flB f, l := flL f, tsn := at4 xs 0, st := at2 xs 4, mid := at2 xs 6, pp := at4 xs 8, body := xs.drop 12 }
  else if k = 64 then { zC k with e := flE f, b := flB f, l := flL f, tsn := at4 xs 0, st := at2 xs 4, mid := at4 xs 8, pp := (if flB f then at4 xs 12 else 0), fr := (if flB f then 0 else at4 xs 12), body := xs.drop 16 }
  else if k = 3 then { zC k with tsn := at4 xs 0, win := at4 xs 4, gaps := gapsAt xs 12 (at2 xs 8).toNat, dups := dupsAt xs (12 + 4 * (at2 xs 8).toNat) (at2 xs 10).toNat }
  else if k = 4 ∨ k = 5 ∨ k = 10 then { zC k with body := xs }
  else if k = 7 then { zC k with tsn := at4 xs 0 }
  else if k = 192 then { zC k with tsn := at4 xs 0, skips := skipsAt xs ((xs.length - 4) / 4) }
  else if k = 194 then { zC k with tsn := at4 xs 0, skips := skipsIt xs ((xs.length - 4) / 8) }
  else if k = 1 ∨ k = 2 then { zC k with tag := at4 xs 0, win := at4 xs 4, out := at2 xs 8, inn := at2 xs 10, tsn := at4 xs 12, ps := (dec (xs.drop 16)).1 }
  else if k = 6 then { zC k with r := flE f, ps := (dec xs).1 }
  else if k = 14 then { zC k with r := flE f }
  else if k = 9 ∨ k = 130 then { zC k with ps := (dec xs).1 }
  else zC k
def ckA (k : Int) (b e l r : Bool) (tsn st mid pp fr tag win out inn : Int) (s14 s15 s16 s17 s18 : Value) : Array Value := #[.int .u8 k, .bool b, .bool e, .bool l, .bool r, .int .u32 tsn, .int .u16 st, .int .u32 mid, .int .u32 pp, .int .u32 fr, .int .u32 tag, .int .u32 win, .int .u16 out, .int .u16 inn, s14, s15, s16, s17, s18]
abbrev z19 (k : Int) : Array Value := ckA k false false false false 0 0 0 0 0 0 0 0 0 (.slice none 0 0) (.slice none 0 0) (.slice none 0 0) (.slice none 0 0) (.slice none 0 0)
section
variable {k : Int} {b e l r : Bool} {tsn st mid pp fr tag win out inn : Int} {s14 s15 s16 s17 s18 : Value}
theorem ckA_1 (x : Bool) : (ckA k b e l r tsn st mid pp fr tag win out inn s14 s15 s16 s17 s18).setIfInBounds 1 (.bool x) = ckA k x e l r tsn st mid pp fr tag win out inn s14 s15 s16 s17 s18 := rfl
theorem ckA_2 (x : Bool) : (ckA k b e l r tsn st mid pp fr tag win out inn s14 s15 s16 s17 s18).setIfInBounds 2 (.bool x) = ckA k b x l r tsn st mid pp fr tag win out inn s14 s15 s16 s17 s18 := rfl
theorem ckA_3 (x : Bool) : (ckA k b e l r tsn st mid pp fr tag win out inn s14 s15 s16 s17 s18).setIfInBounds 3 (.bool x) = ckA k b e x r tsn st mid pp fr tag win out inn s14 s15 s16 s17 s18 := rfl
theorem ckA_4 (x : Bool) : (ckA k b e l r tsn st mid pp fr tag win out inn s14 s15 s16 s17 s18).setIfInBounds 4 (.bool x) = ckA k b e l x tsn st mid pp fr tag win out inn s14 s15 s16 s17 s18 := rfl
theorem ckA_5 (x : Int) : (ckA k b e l r tsn st mid pp fr tag win out inn s14 s15 s16 s17 s18).setIfInBounds 5 (.int .u32 x) = ckA k b e l r x st mid pp fr tag win out inn s14 s15 s16 s17 s18 := rfl
theorem ckA_6 (x : Int) : (ckA k b e l r tsn st mid pp fr tag win out inn s14 s15 s16 s17 s18).setIfInBounds 6 (.int .u16 x) = ckA k b e l r tsn x mid pp fr tag win out inn s14 s15 s16 s17 s18 := rfl
theorem ckA_7 (x : Int) : (ckA k b e l r tsn st mid pp fr tag win out inn s14 s15 s16 s17 s18).setIfInBounds 7 (.int .u32 x) = ckA k b e l r tsn st x pp fr tag win out inn s14 s15 s16 s17 s18 := rfl
theorem ckA_8 (x : Int) : (ckA k b e l r tsn st mid pp fr tag win out inn s14 s15 s16 s17 s18).setIfInBounds 8 (.int .u32 x) = ckA k b e l r tsn st mid x fr tag win out inn s14 s15 s16 s17 s18 := rfl
theorem ckA_9 (x : Int) : (ckA k b e l r tsn st mid pp fr tag win out inn s14 s15 s16 s17 s18).setIfInBounds 9 (.int .u32 x) = ckA k b e l r tsn st mid pp x tag win out inn s14 s15 s16 s17 s18 := rfl
theorem ckA_10 (x : Int) : (ckA k b e l r tsn st mid pp fr tag win out inn s14 s15 s16 s17 s18).setIfInBounds 10 (.int .u32 x) = ckA k b e l r tsn st mid pp fr x win out inn s14 s15 s16 s17 s18 := rfl
theorem ckA_11 (x : Int) : (ckA k b e l r tsn st mid pp fr tag win out inn s14 s15 s16 s17 s18).setIfInBounds 11 (.int .u32 x) = ckA k b e l r tsn st mid pp fr tag x out inn s14 s15 s16 s17 s18 := rfl
theorem ckA_12 (x : Int) : (ckA k b e l r tsn st mid pp fr tag win out inn s14 s15 s16 s17 s18).setIfInBounds 12 (.int .u16 x) = ckA k b e l r tsn st mid pp fr tag win x inn s14 s15 s16 s17 s18 := rfl
theorem ckA_13 (x : Int) : (ckA k b e l r tsn st mid pp fr tag win out inn s14 s15 s16 s17 s18).setIfInBounds 13 (.int .u16 x) = ckA k b e l r tsn st mid pp fr tag win out x s14 s15 s16 s17 s18 := rfl
theorem ckA_14 (x : Value) : (ckA k b e l r tsn st mid pp fr tag win out inn s14 s15 s16 s17 s18).setIfInBounds 14 x = ckA k b e l r tsn st mid pp fr tag win out inn x s15 s16 s17 s18 := rfl
theorem ckA_15 (x : Value) : (ckA k b e l r tsn st mid pp fr tag win out inn s14 s15 s16 s17 s18).setIfInBounds 15 x = ckA k b e l r tsn st mid pp fr tag win out inn s14 x s16 s17 s18 := rfl
theorem ckA_16 (x : Value) : (ckA k b e l r tsn st mid pp fr tag win out inn s14 s15 s16 s17 s18).setIfInBounds 16 x = ckA k b e l r tsn st mid pp fr tag win out inn s14 s15 x s17 s18 := rfl
theorem ckA_17 (x : Value) : (ckA k b e l r tsn st mid pp fr tag win out inn s14 s15 s16 s17 s18).setIfInBounds 17 x = ckA k b e l r tsn st mid pp fr tag win out inn s14 s15 s16 x s18 := rfl
theorem ckA_18 (x : Value) : (ckA k b e l r tsn st mid pp fr tag win out inn s14 s15 s16 s17 s18).setIfInBounds 18 x = ckA k b e l r tsn st mid pp fr tag win out inn s14 s15 s16 s17 x := rfl
theorem ckA_one (h14 : s14.oneCell' = true) (h15 : s15.oneCell' = true) (h16 : s16.oneCell' = true) (h17 : s17.oneCell' = true) (h18 : s18.oneCell' = true) : (ckA k b e l r tsn st mid pp fr tag win out inn s14 s15 s16 s17 s18).all (·.oneCell') = true := by
  rw [← Array.all_toList]
  simp only [ckA, List.all_cons, List.all_nil, h14, h15, h16, h17, h18, Bool.and_true]
  rfl
end
abbrev S3 (gX gR gC : Nat) : Nat → Prop := fun k => k = gX ∨ k = gR ∨ k = gC
/-- The reader, its bytes, the chunk that is filled. -/
structure Rg (w0 w : World) (gX gR gC lo hi : Nat) (bs : List Int) (bb bad : Bool) (cs : Array Value) : Prop where
  x : Blk w gX 89 #[.pointer (some ⟨gR, 0, none⟩), .bool bad]
  r : Rdr w gR lo hi bs bb
  c : Blk w gC 31 cs
  t : Fr (S3 gX gR gC) w0 w
structure Sp (w0 : World) (gX gR gC lo hi : Nat) : Prop where
  xr : gX ≠ gR
  xc : gX ≠ gC
  rc : gR ≠ gC
  x : ∀ k, lo ≤ k → k < hi → k ≠ gX
  c : ∀ k, lo ≤ k → k < hi → k ≠ gC
  lx : gX < w0.heap.size
  lr : gR < w0.heap.size
  lc : gC < w0.heap.size
  lh : hi ≤ w0.heap.size
section
variable {w0 w w' : World} {gX gR gC lo hi : Nat} {bs bs' : List Int} {bb bad bb' bad' : Bool} {cs : Array Value}
theorem Rg.num (h : Rg w0 w gX gR gC lo hi bs bb bad cs) (S : Sp w0 gX gR gC lo hi) (r : Rdr w' gR lo hi bs' bb') (f : Fr (only gR) w w') : Rg w0 w' gX gR gC lo hi bs' bb' bad cs :=
  ⟨h.x.fr f S.xr, r, h.c.fr f (fun h => S.rc (show gC = gR from h).symm), h.t.trans f (fun k _ hk => .inr (.inl hk))⟩
theorem Rg.must (h : Rg w0 w gX gR gC lo hi bs bb bad cs) (S : Sp w0 gX gR gC lo hi) (b : Blk w' gX 89 #[.pointer (some ⟨gR, 0, none⟩), .bool bad']) (f : Fr (only gX) w w') : Rg w0 w' gX gR gC lo hi bs bb bad' cs :=
  ⟨b, h.r.fr f (fun h => S.xr (show gR = gX from h).symm) (fun k h1 h2 h3 => S.x k h1 h2 h3), h.c.fr f (fun h => S.xc (show gC = gX from h).symm), h.t.trans f (fun k _ hk => .inl hk)⟩
theorem Rg.put (h : Rg w0 w gX gR gC lo hi bs bb bad cs) (S : Sp w0 gX gR gC lo hi) (i : Nat) (v : Value) : Rg w0 (w.setCell ⟨gC, i, none⟩ v) gX gR gC lo hi bs bb bad (cs.setIfInBounds i v) := by
  have f : Fr (only gC) w (w.setCell ⟨gC, i, none⟩ v) := (Fr.refl _ _).set_only i none v
  exact ⟨h.x.fr f S.xc, h.r.fr f S.rc (fun k h1 h2 h3 => S.c k h1 h2 h3), h.c.set i v, h.t.trans f (fun k _ hk => .inr (.inr hk))⟩
theorem Rg.away {T : Nat → Prop} (h : Rg w0 w gX gR gC lo hi bs bb bad cs) (S : Sp w0 gX gR gC lo hi) (f : Fr T w w') (hT : ∀ k, T k → w0.heap.size ≤ k) : Rg w0 w' gX gR gC lo hi bs bb bad cs :=
  ⟨h.x.fr f (fun h => by have := hT _ h; have := S.lx; omega), h.r.fr f (fun h => by have := hT _ h; have := S.lr; omega) (fun k h1 h2 h3 => by have := hT _ h3; have := S.lh; omega), h.c.fr f (fun h => by have := hT _ h; have := S.lc; omega),
    h.t.trans f (fun k hk h => by have := hT _ h; omega)⟩
end
def ReadP (w : World) (gX gR gC : Nat) (k f : Int) (xs : List Int) (e : Ending) (w' : World) : Prop :=
  e = .returned (.tuple #[]) ∧ ∃ cs', Blk w' gX 89 #[.pointer (some ⟨gR, 0, none⟩), .bool (!rOk k f xs)] ∧ Blk w' gC 31 cs' ∧ Fr (S3 gX gR gC) w w' ∧ (rOk k f xs = true → CkV w' w.heap.size w'.heap.size cs' (rC k f xs))
theorem Blk.bool {w : World} {g : Nat} {t : TypeId} {p : Value} {a b : Bool} (h : Blk w g t #[p, .bool a]) (e : a = b) : Blk w g t #[p, .bool b] := e ▸ h
theorem end_eq (bs : List Int) (bb bad : Bool) : (bad || !(endOf bs bb == 0)) = (bad || bb || decide (0 < bs.length)) := by
  unfold endOf
  cases bb <;> cases bad <;> simp <;> (split <;> simp_all)
theorem nilv (w : World) (lo hi : Nat) : SlB w lo hi (.slice none ([] : List Int).length 0) [] := ⟨none, 0, rfl, Nat.le_refl _, Nat.zero_le _, fun _ => rfl, .inl rfl⟩
theorem ckv_zero (w : World) (lo hi : Nat) (k : Int) : CkV w lo hi (z19 k) (zC k) :=
  ⟨rfl, ckA_one rfl rfl rfl rfl rfl, rfl, rfl, rfl, rfl, rfl, rfl, rfl, rfl, rfl, rfl, rfl, rfl, rfl, rfl, ⟨none, 0, rfl, fun i h => by cases h⟩, ⟨none, 0, rfl, fun i h => by cases h⟩, ⟨none, 0, rfl, fun i h => by cases h⟩, ⟨none, 0, rfl, fun i h => by cases h⟩, ⟨none, 0, rfl, nilv _ _ _⟩⟩
set_option maxHeartbeats 4000000 in
set_option maxRecDepth 100000 in
theorem read_8 (gX gR gC lo hi : Nat) (f : Int) (xs : List Int) (w : World) (H0 : Rg w w gX gR gC lo hi xs false false (z19 8)) (S : Sp w gX gR gC lo hi) (hB : IsB xs) (hl : xs.length ≤ 100000) (hf : 0 ≤ f ∧ f < 256) :
    Calls Try.prog 42 #[.pointer (some ⟨gX, 0, none⟩), .pointer (some ⟨gC, 0, none⟩), .int .u8 f] w (ReadP w gX gR gC 8 f xs) := by
  have hF := Blk.new w #[.int .u8 f] 5
  have H := H0.away S ((Fr.refl nothing w).alloc (.cells #[.int .u8 f] 5)) (fun k h => h.elim)
  have cx0 := H.x.cell 0
  have cx1 := H.x.cell 1
  have cf := hF.cell 0
  have ck : (w.alloc (.cells #[.int .u8 f] 5)).cell? ⟨gC, 0, none⟩ = some (.int .u8 8) := H.c.cell 0
  simp at cx0 cx1 cf
  have HS := Lib.hid S
  have HBB := Lib.hid hB
  clear H0 hB
  have hok : rOk 8 f xs = decide (f = 0 ∧ xs.length = 0) := rfl
  have HOK := Lib.hid hok
  clear hok
  go_enter Try.func42, Try.ntmps42
  by_cases hz : f = 0
  · have hzb : (f == 0) = true := beq_iff_eq.2 hz
    have HZ := Lib.hid hz
    clear hz
    go_wp2_with fail
    refine (end_calls _ _ _ _ _ _ H.r).mono ?_
    rintro e we ⟨rfl, hwe⟩
    rw [hwe]
    clear hwe
    go_wp2_with fail
    refine (must_calls gX _ _ _ _ H.x).mono ?_
    rintro e wz ⟨rfl, bz, fz⟩
    go_wp2
    first | go_end0 | ((try simp only [Exit.inBlock, Exit.then]); refine bodyPost_ret (results_none rfl _ _ _) rfl ?_)
    refine ⟨rfl, _, Blk.bool bz ?okT, H.c.fr fz (fun h => HS.out.xc (show gC = gX from h).symm), H.t.trans fz (fun k _ hk => .inl hk), fun hok => ?ckT⟩
    case okT => rw [end_eq, HOK.out, Bool.eq_iff_iff]; have hz := HZ.out; simp only [Bool.or_eq_true, decide_eq_true_eq, Bool.not_eq_true', decide_eq_false_iff_not, Bool.false_eq_true, false_or]; omega
    case ckT => exact ckv_zero _ _ _ 8
  · have hzb : (f == 0) = false := beq_eq_false_iff_ne.2 hz
    have HZ := Lib.hid hz
    clear hz
    go_wp2_with fail
    refine (must_calls gX _ _ _ _ H.x).mono ?_
    rintro e wz ⟨rfl, bz, fz⟩
    go_wp2
    first | go_end0 | ((try simp only [Exit.inBlock, Exit.then]); refine bodyPost_ret (results_none rfl _ _ _) rfl ?_)
    have hno : rOk 8 f xs = false := (by rw [HOK.out]; simp [HZ.out])
    refine ⟨rfl, _, Blk.bool bz (by rw [hno]; simp), H.c.fr fz (fun h => HS.out.xc (show gC = gX from h).symm), H.t.trans fz (fun k _ hk => .inl hk), fun hok => by rw [hno] at hok; cases hok⟩
set_option maxHeartbeats 4000000 in
set_option maxRecDepth 100000 in
theorem read_11 (gX gR gC lo hi : Nat) (f : Int) (xs : List Int) (w : World) (H0 : Rg w w gX gR gC lo hi xs false false (z19 11)) (S : Sp w gX gR gC lo hi) (hB : IsB xs) (hl : xs.length ≤ 100000) (hf : 0 ≤ f ∧ f < 256) :
    Calls Try.prog 42 #[.pointer (some ⟨gX, 0, none⟩), .pointer (some ⟨gC, 0, none⟩), .int .u8 f] w (ReadP w gX gR gC 11 f xs) := by
  have hF := Blk.new w #[.int .u8 f] 5
  have H := H0.away S ((Fr.refl nothing w).alloc (.cells #[.int .u8 f] 5)) (fun k h => h.elim)
  have cx0 := H.x.cell 0
  have cx1 := H.x.cell 1
  have cf := hF.cell 0
  have ck : (w.alloc (.cells #[.int .u8 f] 5)).cell? ⟨gC, 0, none⟩ = some (.int .u8 11) := H.c.cell 0
  simp at cx0 cx1 cf
  have HS := Lib.hid S
  have HBB := Lib.hid hB
  clear H0 hB
  have hok : rOk 11 f xs = decide (f = 0 ∧ xs.length = 0) := rfl
  have HOK := Lib.hid hok
  clear hok
  go_enter Try.func42, Try.ntmps42
  by_cases hz : f = 0
  · have hzb : (f == 0) = true := beq_iff_eq.2 hz
    have HZ := Lib.hid hz
    clear hz
    go_wp2_with fail
    refine (end_calls _ _ _ _ _ _ H.r).mono ?_
    rintro e we ⟨rfl, hwe⟩
    rw [hwe]
    clear hwe
    go_wp2_with fail
    refine (must_calls gX _ _ _ _ H.x).mono ?_
    rintro e wz ⟨rfl, bz, fz⟩
    go_wp2
    first | go_end0 | ((try simp only [Exit.inBlock, Exit.then]); refine bodyPost_ret (results_none rfl _ _ _) rfl ?_)
    refine ⟨rfl, _, Blk.bool bz ?okT, H.c.fr fz (fun h => HS.out.xc (show gC = gX from h).symm), H.t.trans fz (fun k _ hk => .inl hk), fun hok => ?ckT⟩
    case okT => rw [end_eq, HOK.out, Bool.eq_iff_iff]; have hz := HZ.out; simp only [Bool.or_eq_true, decide_eq_true_eq, Bool.not_eq_true', decide_eq_false_iff_not, Bool.false_eq_true, false_or]; omega
    case ckT => exact ckv_zero _ _ _ 11
  · have hzb : (f == 0) = false := beq_eq_false_iff_ne.2 hz
    have HZ := Lib.hid hz
    clear hz
    go_wp2_with fail
    refine (must_calls gX _ _ _ _ H.x).mono ?_
    rintro e wz ⟨rfl, bz, fz⟩
    go_wp2
    first | go_end0 | ((try simp only [Exit.inBlock, Exit.then]); refine bodyPost_ret (results_none rfl _ _ _) rfl ?_)
    have hno : rOk 11 f xs = false := (by rw [HOK.out]; simp [HZ.out])
    refine ⟨rfl, _, Blk.bool bz (by rw [hno]; simp), H.c.fr fz (fun h => HS.out.xc (show gC = gX from h).symm), H.t.trans fz (fun k _ hk => .inl hk), fun hok => by rw [hno] at hok; cases hok⟩
theorem f_one (F : Fin 256) : (bits .and .u8 ((F.val : Nat) : Int) 1 != 0) = flE (F.val : Nat) ∧ bits .andNot .u8 ((F.val : Nat) : Int) 1 = ((F.val / 2 * 2 : Nat) : Int) := by
  revert F; decide +kernel
theorem f_one' {f : Int} (h : 0 ≤ f ∧ f < 256) : (bits .and .u8 f 1 != 0) = flE f ∧ bits .andNot .u8 f 1 = f / 2 * 2 := by
  have := f_one ⟨f.toNat, by omega⟩
  have e : ((f.toNat : Nat) : Int) = f := by omega
  simp only [Int.natCast_mul, Int.natCast_ediv, e] at this
  exact this
set_option maxHeartbeats 4000000 in
set_option maxRecDepth 100000 in
theorem read_7 (gX gR gC lo hi : Nat) (f : Int) (xs : List Int) (w : World) (H0 : Rg w w gX gR gC lo hi xs false false (z19 7)) (S : Sp w gX gR gC lo hi) (hB : IsB xs) (hl : xs.length ≤ 100000) (hf : 0 ≤ f ∧ f < 256) :
    Calls Try.prog 42 #[.pointer (some ⟨gX, 0, none⟩), .pointer (some ⟨gC, 0, none⟩), .int .u8 f] w (ReadP w gX gR gC 7 f xs) := by
  have hF := Blk.new w #[.int .u8 f] 5
  have H := H0.away S ((Fr.refl nothing w).alloc (.cells #[.int .u8 f] 5)) (fun k h => h.elim)
  have cx0 := H.x.cell 0
  have cx1 := H.x.cell 1
  have cf := hF.cell 0
  have ck : (w.alloc (.cells #[.int .u8 f] 5)).cell? ⟨gC, 0, none⟩ = some (.int .u8 7) := H.c.cell 0
  simp at cx0 cx1 cf
  have HS := Lib.hid S
  have HBB := Lib.hid hB
  clear H0 hB
  have hok : rOk 7 f xs = decide (f = 0 ∧ xs.length = 4) := rfl
  have HOK := Lib.hid hok
  clear hok
  have H : Rg w (w.alloc (.cells #[.int .u8 f] 5)) gX gR gC lo hi (xs.drop 0) (decide (xs.length < 0)) false (z19 7) := by simpa using H
  go_enter Try.func42, Try.ntmps42
  go_wp2_with fail
  refine (rd4_calls _ _ _ xs 0 _ H.r HBB.out).mono ?_
  rintro e w1 ⟨rfl, r, fr⟩
  replace hF := hF.fr fr (fun h => by have := HS.out.lr; have h9 : w.heap.size = gR := h; omega)
  replace H := H.num HS.out r fr
  clear r fr
  have k5 : w1.cell? ⟨gC, 5, none⟩ = some (.int .u32 0) := H.c.cell 5
  have q5 := H.c.frozen 5
  go_upto_region 54 with fail
  replace H := H.put HS.out 5 (.int .u32 (at4 xs 0))
  rw [ckA_5] at H
  replace hF := hF.far (p := ⟨gC, 5, none⟩) (by show w.heap.size ≠ gC; have := HS.out.lc; omega) (.int .u32 (at4 xs 0))
  generalize w1.setCell ⟨gC, 5, none⟩ (.int .u32 (at4 xs 0)) = w2 at *
  clear k5 q5 cx0 cx1 cf ck
  have cx0 := H.x.cell 0
  have cx1 := H.x.cell 1
  have cf := hF.cell 0
  simp at cx0 cx1 cf
  by_cases hz : f = 0
  · have hzb : (f == 0) = true := beq_iff_eq.2 hz
    have HZ := Lib.hid hz
    clear hz
    go_wp2_with fail
    refine (end_calls _ _ _ _ _ _ H.r).mono ?_
    rintro e we ⟨rfl, hwe⟩
    rw [hwe]
    clear hwe
    go_wp2_with fail
    refine (must_calls gX _ _ _ _ H.x).mono ?_
    rintro e wz ⟨rfl, bz, fz⟩
    go_wp2
    first | go_end0 | ((try simp only [Exit.inBlock, Exit.then]); refine bodyPost_ret (results_none rfl _ _ _) rfl ?_)
    refine ⟨rfl, _, Blk.bool bz ?okT, H.c.fr fz (fun h => HS.out.xc (show gC = gX from h).symm), H.t.trans fz (fun k _ hk => .inl hk), fun hok => ?ckT⟩
    case okT => rw [end_eq, HOK.out, Bool.eq_iff_iff]; have hz := HZ.out; simp only [Bool.or_eq_true, decide_eq_true_eq, Bool.not_eq_true', decide_eq_false_iff_not, Bool.false_eq_true, false_or, List.length_drop]; omega
    case ckT => exact ⟨rfl, ckA_one rfl rfl rfl rfl rfl, rfl, rfl, rfl, rfl, rfl, rfl, rfl, rfl, rfl, rfl, rfl, rfl, rfl, rfl, ⟨none, 0, rfl, fun i h => absurd (show i < 0 from h) (Nat.not_lt_zero i)⟩, ⟨none, 0, rfl, fun i h => absurd (show i < 0 from h) (Nat.not_lt_zero i)⟩, ⟨none, 0, rfl, fun i h => absurd (show i < 0 from h) (Nat.not_lt_zero i)⟩, ⟨none, 0, rfl, fun i h => absurd (show i < 0 from h) (Nat.not_lt_zero i)⟩, ⟨none, 0, rfl, nilv _ _ _⟩⟩
  · have hzb : (f == 0) = false := beq_eq_false_iff_ne.2 hz
    have HZ := Lib.hid hz
    clear hz
    go_wp2_with fail
    refine (must_calls gX _ _ _ _ H.x).mono ?_
    rintro e wz ⟨rfl, bz, fz⟩
    go_wp2
    first | go_end0 | ((try simp only [Exit.inBlock, Exit.then]); refine bodyPost_ret (results_none rfl _ _ _) rfl ?_)
    have hno : rOk 7 f xs = false := (by rw [HOK.out]; simp [HZ.out])
    refine ⟨rfl, _, Blk.bool bz (by rw [hno]; simp), H.c.fr fz (fun h => HS.out.xc (show gC = gX from h).symm), H.t.trans fz (fun k _ hk => .inl hk), fun hok => by rw [hno] at hok; cases hok⟩
set_option maxHeartbeats 4000000 in
set_option maxRecDepth 100000 in
theorem read_4 (gX gR gC lo hi : Nat) (f : Int) (xs : List Int) (w : World) (H0 : Rg w w gX gR gC lo hi xs false false (z19 4)) (S : Sp w gX gR gC lo hi) (hB : IsB xs) (hl : xs.length ≤ 100000) (hf : 0 ≤ f ∧ f < 256) :
    Calls Try.prog 42 #[.pointer (some ⟨gX, 0, none⟩), .pointer (some ⟨gC, 0, none⟩), .int .u8 f] w (ReadP w gX gR gC 4 f xs) := by
  have hF := Blk.new w #[.int .u8 f] 5
  have H := H0.away S ((Fr.refl nothing w).alloc (.cells #[.int .u8 f] 5)) (fun k h => h.elim)
  have cx0 := H.x.cell 0
  have cx1 := H.x.cell 1
  have cf := hF.cell 0
  have ck : (w.alloc (.cells #[.int .u8 f] 5)).cell? ⟨gC, 0, none⟩ = some (.int .u8 4) := H.c.cell 0
  simp at cx0 cx1 cf
  have HS := Lib.hid S
  have HBB := Lib.hid hB
  clear H0 hB
  have hok : rOk 4 f xs = decide (f = 0) := rfl
  have HOK := Lib.hid hok
  clear hok
  go_enter Try.func42, Try.ntmps42
  have k18 : (w.alloc (.cells #[.int .u8 f] 5)).cell? ⟨gC, 18, none⟩ = some (.slice none 0 0) := H.c.cell 18
  have q18 := H.c.frozen 18
  have hs9 := H.t.size
  go_wp2_with fail
  refine (rest_calls gX gR _ _ _ _ _ _ H.x H.r).mono ?_
  rintro e w1 ⟨vb, rfl, ob, r, fr⟩
  replace hF := hF.fr fr (fun h => by have := HS.out.lr; have h9 : w.heap.size = gR := h; omega)
  replace H := H.num HS.out r fr
  have hb9 := fr.size
  replace ob := OwnB.low ob hs9
  obtain ⟨Ab, pb, rfl, -, -⟩ := OwnB.slice ob
  clear r fr k18 q18
  have k18 : w1.cell? ⟨gC, 18, none⟩ = some (.slice none 0 0) := H.c.cell 18
  have q18 := H.c.frozen 18
  go_upto_region 54 with fail
  have fp : Fr (only gC) w1 (w1.setCell ⟨gC, 18, none⟩ (.slice Ab (xs).length pb)) := (Fr.refl _ _).set_only 18 none _
  replace ob := OwnB.fr ob fp (fun k h1 h2 => by have h9 : k = gC := h2; have := OwnB.ge ob k h1; have := HS.out.lc; omega)
  clear fp
  replace H := H.put HS.out 18 (.slice Ab (xs).length pb)
  rw [ckA_18] at H
  replace hF := hF.far (p := ⟨gC, 18, none⟩) (by show w.heap.size ≠ gC; have := HS.out.lc; omega) (.slice Ab (xs).length pb)
  generalize w1.setCell ⟨gC, 18, none⟩ (.slice Ab (xs).length pb) = w2 at *
  clear k18 q18 cx0 cx1 cf ck
  have cx0 := H.x.cell 0
  have cx1 := H.x.cell 1
  have cf := hF.cell 0
  simp at cx0 cx1 cf
  by_cases hz : f = 0
  · have hzb : (f == 0) = true := beq_iff_eq.2 hz
    have HZ := Lib.hid hz
    clear hz
    go_wp2_with fail
    refine (end_calls _ _ _ _ _ _ H.r).mono ?_
    rintro e we ⟨rfl, hwe⟩
    rw [hwe]
    clear hwe
    go_wp2_with fail
    refine (must_calls gX _ _ _ _ H.x).mono ?_
    rintro e wz ⟨rfl, bz, fz⟩
    go_wp2
    first | go_end0 | ((try simp only [Exit.inBlock, Exit.then]); refine bodyPost_ret (results_none rfl _ _ _) rfl ?_)
    refine ⟨rfl, _, Blk.bool bz ?okT, H.c.fr fz (fun h => HS.out.xc (show gC = gX from h).symm), H.t.trans fz (fun k _ hk => .inl hk), fun hok => ?ckT⟩
    case okT => rw [end_eq, HOK.out, Bool.eq_iff_iff]; have hz := HZ.out; simp [hz]
    case ckT => exact ⟨rfl, ckA_one rfl rfl rfl rfl rfl, rfl, rfl, rfl, rfl, rfl, rfl, rfl, rfl, rfl, rfl, rfl, rfl, rfl, rfl, ⟨none, 0, rfl, fun i h => absurd (show i < 0 from h) (Nat.not_lt_zero i)⟩, ⟨none, 0, rfl, fun i h => absurd (show i < 0 from h) (Nat.not_lt_zero i)⟩, ⟨none, 0, rfl, fun i h => absurd (show i < 0 from h) (Nat.not_lt_zero i)⟩, ⟨none, 0, rfl, fun i h => absurd (show i < 0 from h) (Nat.not_lt_zero i)⟩, ⟨Ab, pb, rfl, SlB.of_own (OwnB.fr ob fz (fun k h1 h2 => by have h9 : k = gX := h2; have := OwnB.ge ob k h1; have := HS.out.lx; omega))⟩⟩
  · have hzb : (f == 0) = false := beq_eq_false_iff_ne.2 hz
    have HZ := Lib.hid hz
    clear hz
    go_wp2_with fail
    refine (must_calls gX _ _ _ _ H.x).mono ?_
    rintro e wz ⟨rfl, bz, fz⟩
    go_wp2
    first | go_end0 | ((try simp only [Exit.inBlock, Exit.then]); refine bodyPost_ret (results_none rfl _ _ _) rfl ?_)
    have hno : rOk 4 f xs = false := (by rw [HOK.out]; simp [HZ.out])
    refine ⟨rfl, _, Blk.bool bz (by rw [hno]; simp), H.c.fr fz (fun h => HS.out.xc (show gC = gX from h).symm), H.t.trans fz (fun k _ hk => .inl hk), fun hok => by rw [hno] at hok; cases hok⟩
set_option maxHeartbeats 4000000 in
set_option maxRecDepth 100000 in
theorem read_5 (gX gR gC lo hi : Nat) (f : Int) (xs : List Int) (w : World) (H0 : Rg w w gX gR gC lo hi xs false false (z19 5)) (S : Sp w gX gR gC lo hi) (hB : IsB xs) (hl : xs.length ≤ 100000) (hf : 0 ≤ f ∧ f < 256) :
    Calls Try.prog 42 #[.pointer (some ⟨gX, 0, none⟩), .pointer (some ⟨gC, 0, none⟩), .int .u8 f] w (ReadP w gX gR gC 5 f xs) := by
  have hF := Blk.new w #[.int .u8 f] 5
  have H := H0.away S ((Fr.refl nothing w).alloc (.cells #[.int .u8 f] 5)) (fun k h => h.elim)
  have cx0 := H.x.cell 0
  have cx1 := H.x.cell 1
  have cf := hF.cell 0
  have ck : (w.alloc (.cells #[.int .u8 f] 5)).cell? ⟨gC, 0, none⟩ = some (.int .u8 5) := H.c.cell 0
  simp at cx0 cx1 cf
  have HS := Lib.hid S
  have HBB := Lib.hid hB
  clear H0 hB
  have hok : rOk 5 f xs = decide (f = 0) := rfl
  have HOK := Lib.hid hok
  clear hok
  go_enter Try.func42, Try.ntmps42
  have k18 : (w.alloc (.cells #[.int .u8 f] 5)).cell? ⟨gC, 18, none⟩ = some (.slice none 0 0) := H.c.cell 18
  have q18 := H.c.frozen 18
  have hs9 := H.t.size
  go_wp2_with fail
  refine (rest_calls gX gR _ _ _ _ _ _ H.x H.r).mono ?_
  rintro e w1 ⟨vb, rfl, ob, r, fr⟩
  replace hF := hF.fr fr (fun h => by have := HS.out.lr; have h9 : w.heap.size = gR := h; omega)
  replace H := H.num HS.out r fr
  have hb9 := fr.size
  replace ob := OwnB.low ob hs9
  obtain ⟨Ab, pb, rfl, -, -⟩ := OwnB.slice ob
  clear r fr k18 q18
  have k18 : w1.cell? ⟨gC, 18, none⟩ = some (.slice none 0 0) := H.c.cell 18
  have q18 := H.c.frozen 18
  go_upto_region 54 with fail
  have fp : Fr (only gC) w1 (w1.setCell ⟨gC, 18, none⟩ (.slice Ab (xs).length pb)) := (Fr.refl _ _).set_only 18 none _
  replace ob := OwnB.fr ob fp (fun k h1 h2 => by have h9 : k = gC := h2; have := OwnB.ge ob k h1; have := HS.out.lc; omega)
  clear fp
  replace H := H.put HS.out 18 (.slice Ab (xs).length pb)
  rw [ckA_18] at H
  replace hF := hF.far (p := ⟨gC, 18, none⟩) (by show w.heap.size ≠ gC; have := HS.out.lc; omega) (.slice Ab (xs).length pb)
  generalize w1.setCell ⟨gC, 18, none⟩ (.slice Ab (xs).length pb) = w2 at *
  clear k18 q18 cx0 cx1 cf ck
  have cx0 := H.x.cell 0
  have cx1 := H.x.cell 1
  have cf := hF.cell 0
  simp at cx0 cx1 cf
  by_cases hz : f = 0
  · have hzb : (f == 0) = true := beq_iff_eq.2 hz
    have HZ := Lib.hid hz
    clear hz
    go_wp2_with fail
    refine (end_calls _ _ _ _ _ _ H.r).mono ?_
    rintro e we ⟨rfl, hwe⟩
    rw [hwe]
    clear hwe
    go_wp2_with fail
    refine (must_calls gX _ _ _ _ H.x).mono ?_
    rintro e wz ⟨rfl, bz, fz⟩
    go_wp2
    first | go_end0 | ((try simp only [Exit.inBlock, Exit.then]); refine bodyPost_ret (results_none rfl _ _ _) rfl ?_)
    refine ⟨rfl, _, Blk.bool bz ?okT, H.c.fr fz (fun h => HS.out.xc (show gC = gX from h).symm), H.t.trans fz (fun k _ hk => .inl hk), fun hok => ?ckT⟩
    case okT => rw [end_eq, HOK.out, Bool.eq_iff_iff]; have hz := HZ.out; simp [hz]
    case ckT => exact ⟨rfl, ckA_one rfl rfl rfl rfl rfl, rfl, rfl, rfl, rfl, rfl, rfl, rfl, rfl, rfl, rfl, rfl, rfl, rfl, rfl, ⟨none, 0, rfl, fun i h => absurd (show i < 0 from h) (Nat.not_lt_zero i)⟩, ⟨none, 0, rfl, fun i h => absurd (show i < 0 from h) (Nat.not_lt_zero i)⟩, ⟨none, 0, rfl, fun i h => absurd (show i < 0 from h) (Nat.not_lt_zero i)⟩, ⟨none, 0, rfl, fun i h => absurd (show i < 0 from h) (Nat.not_lt_zero i)⟩, ⟨Ab, pb, rfl, SlB.of_own (OwnB.fr ob fz (fun k h1 h2 => by have h9 : k = gX := h2; have := OwnB.ge ob k h1; have := HS.out.lx; omega))⟩⟩
  · have hzb : (f == 0) = false := beq_eq_false_iff_ne.2 hz
    have HZ := Lib.hid hz
    clear hz
    go_wp2_with fail
    refine (must_calls gX _ _ _ _ H.x).mono ?_
    rintro e wz ⟨rfl, bz, fz⟩
    go_wp2
    first | go_end0 | ((try simp only [Exit.inBlock, Exit.then]); refine bodyPost_ret (results_none rfl _ _ _) rfl ?_)
    have hno : rOk 5 f xs = false := (by rw [HOK.out]; simp [HZ.out])
    refine ⟨rfl, _, Blk.bool bz (by rw [hno]; simp), H.c.fr fz (fun h => HS.out.xc (show gC = gX from h).symm), H.t.trans fz (fun k _ hk => .inl hk), fun hok => by rw [hno] at hok; cases hok⟩
set_option maxHeartbeats 4000000 in
set_option maxRecDepth 100000 in
theorem read_10 (gX gR gC lo hi : Nat) (f : Int) (xs : List Int) (w : World) (H0 : Rg w w gX gR gC lo hi xs false false (z19 10)) (S : Sp w gX gR gC lo hi) (hB : IsB xs) (hl : xs.length ≤ 100000) (hf : 0 ≤ f ∧ f < 256) :
    Calls Try.prog 42 #[.pointer (some ⟨gX, 0, none⟩), .pointer (some ⟨gC, 0, none⟩), .int .u8 f] w (ReadP w gX gR gC 10 f xs) := by
  have hF := Blk.new w #[.int .u8 f] 5
  have H := H0.away S ((Fr.refl nothing w).alloc (.cells #[.int .u8 f] 5)) (fun k h => h.elim)
  have cx0 := H.x.cell 0
  have cx1 := H.x.cell 1
  have cf := hF.cell 0
  have ck : (w.alloc (.cells #[.int .u8 f] 5)).cell? ⟨gC, 0, none⟩ = some (.int .u8 10) := H.c.cell 0
  simp at cx0 cx1 cf
  have HS := Lib.hid S
  have HBB := Lib.hid hB
  clear H0 hB
  have hok : rOk 10 f xs = decide (f = 0) := rfl
  have HOK := Lib.hid hok
  clear hok
  go_enter Try.func42, Try.ntmps42
  have k18 : (w.alloc (.cells #[.int .u8 f] 5)).cell? ⟨gC, 18, none⟩ = some (.slice none 0 0) := H.c.cell 18
  have q18 := H.c.frozen 18
  have hs9 := H.t.size
  go_wp2_with fail
  refine (rest_calls gX gR _ _ _ _ _ _ H.x H.r).mono ?_
  rintro e w1 ⟨vb, rfl, ob, r, fr⟩
  replace hF := hF.fr fr (fun h => by have := HS.out.lr; have h9 : w.heap.size = gR := h; omega)
  replace H := H.num HS.out r fr
  have hb9 := fr.size
  replace ob := OwnB.low ob hs9
  obtain ⟨Ab, pb, rfl, -, -⟩ := OwnB.slice ob
  clear r fr k18 q18
  have k18 : w1.cell? ⟨gC, 18, none⟩ = some (.slice none 0 0) := H.c.cell 18
  have q18 := H.c.frozen 18
  go_upto_region 54 with fail
  have fp : Fr (only gC) w1 (w1.setCell ⟨gC, 18, none⟩ (.slice Ab (xs).length pb)) := (Fr.refl _ _).set_only 18 none _
  replace ob := OwnB.fr ob fp (fun k h1 h2 => by have h9 : k = gC := h2; have := OwnB.ge ob k h1; have := HS.out.lc; omega)
  clear fp
  replace H := H.put HS.out 18 (.slice Ab (xs).length pb)
  rw [ckA_18] at H
  replace hF := hF.far (p := ⟨gC, 18, none⟩) (by show w.heap.size ≠ gC; have := HS.out.lc; omega) (.slice Ab (xs).length pb)
  generalize w1.setCell ⟨gC, 18, none⟩ (.slice Ab (xs).length pb) = w2 at *
  clear k18 q18 cx0 cx1 cf ck
  have cx0 := H.x.cell 0
  have cx1 := H.x.cell 1
  have cf := hF.cell 0
  simp at cx0 cx1 cf
  by_cases hz : f = 0
  · have hzb : (f == 0) = true := beq_iff_eq.2 hz
    have HZ := Lib.hid hz
    clear hz
    go_wp2_with fail
    refine (end_calls _ _ _ _ _ _ H.r).mono ?_
    rintro e we ⟨rfl, hwe⟩
    rw [hwe]
    clear hwe
    go_wp2_with fail
    refine (must_calls gX _ _ _ _ H.x).mono ?_
    rintro e wz ⟨rfl, bz, fz⟩
    go_wp2
    first | go_end0 | ((try simp only [Exit.inBlock, Exit.then]); refine bodyPost_ret (results_none rfl _ _ _) rfl ?_)
    refine ⟨rfl, _, Blk.bool bz ?okT, H.c.fr fz (fun h => HS.out.xc (show gC = gX from h).symm), H.t.trans fz (fun k _ hk => .inl hk), fun hok => ?ckT⟩
    case okT => rw [end_eq, HOK.out, Bool.eq_iff_iff]; have hz := HZ.out; simp [hz]
    case ckT => exact ⟨rfl, ckA_one rfl rfl rfl rfl rfl, rfl, rfl, rfl, rfl, rfl, rfl, rfl, rfl, rfl, rfl, rfl, rfl, rfl, rfl, ⟨none, 0, rfl, fun i h => absurd (show i < 0 from h) (Nat.not_lt_zero i)⟩, ⟨none, 0, rfl, fun i h => absurd (show i < 0 from h) (Nat.not_lt_zero i)⟩, ⟨none, 0, rfl, fun i h => absurd (show i < 0 from h) (Nat.not_lt_zero i)⟩, ⟨none, 0, rfl, fun i h => absurd (show i < 0 from h) (Nat.not_lt_zero i)⟩, ⟨Ab, pb, rfl, SlB.of_own (OwnB.fr ob fz (fun k h1 h2 => by have h9 : k = gX := h2; have := OwnB.ge ob k h1; have := HS.out.lx; omega))⟩⟩
  · have hzb : (f == 0) = false := beq_eq_false_iff_ne.2 hz
    have HZ := Lib.hid hz
    clear hz
    go_wp2_with fail
    refine (must_calls gX _ _ _ _ H.x).mono ?_
    rintro e wz ⟨rfl, bz, fz⟩
    go_wp2
    first | go_end0 | ((try simp only [Exit.inBlock, Exit.then]); refine bodyPost_ret (results_none rfl _ _ _) rfl ?_)
    have hno : rOk 10 f xs = false := (by rw [HOK.out]; simp [HZ.out])
    refine ⟨rfl, _, Blk.bool bz (by rw [hno]; simp), H.c.fr fz (fun h => HS.out.xc (show gC = gX from h).symm), H.t.trans fz (fun k _ hk => .inl hk), fun hok => by rw [hno] at hok; cases hok⟩
theorem isb_self {xs : List Int} (h : IsB xs) : IsB (xs.drop 0) := h
theorem ckv_ps {w : World} {base : Nat} {A : Option Addr} {p : Nat} {ps : List Pm} (h : OwnPm w base (.slice A ps.length p) ps) : PmC w base w.heap.size A ps := by
  obtain ⟨A', p', e, h⟩ := h.pms
  injection e with e1 e2 e3
  subst e1
  exact h
set_option maxHeartbeats 4000000 in
set_option maxRecDepth 100000 in
theorem read_9 (gX gR gC lo hi : Nat) (f : Int) (xs : List Int) (w : World) (H0 : Rg w w gX gR gC lo hi xs false false (z19 9)) (S : Sp w gX gR gC lo hi) (hB : IsB xs) (hl : xs.length ≤ 100000) (hf : 0 ≤ f ∧ f < 256) :
    Calls Try.prog 42 #[.pointer (some ⟨gX, 0, none⟩), .pointer (some ⟨gC, 0, none⟩), .int .u8 f] w (ReadP w gX gR gC 9 f xs) := by
  have hF := Blk.new w #[.int .u8 f] 5
  have H := H0.away S ((Fr.refl nothing w).alloc (.cells #[.int .u8 f] 5)) (fun k h => h.elim)
  have cx0 := H.x.cell 0
  have cx1 := H.x.cell 1
  have cf := hF.cell 0
  have ck : (w.alloc (.cells #[.int .u8 f] 5)).cell? ⟨gC, 0, none⟩ = some (.int .u8 9) := H.c.cell 0
  simp at cx0 cx1 cf
  have HS := Lib.hid S
  have HBB := Lib.hid hB
  clear H0 hB
  have hok : rOk 9 f xs = decide (f = 0 ∧ (dec xs).2 = 0) := rfl
  have HOK := Lib.hid hok
  clear hok
  go_enter Try.func42, Try.ntmps42
  have k17 : (w.alloc (.cells #[.int .u8 f] 5)).cell? ⟨gC, 17, none⟩ = some (.slice none 0 0) := H.c.cell 17
  have q17 := H.c.frozen 17
  have hs9 := H.t.size
  obtain ⟨ps, hps⟩ : ∃ x, (dec xs).1 = x := ⟨_, rfl⟩
  obtain ⟨E, hE⟩ : ∃ x, (dec xs).2 = x := ⟨_, rfl⟩
  have CP := params_calls gX gR lo hi xs _ _ _ H.x H.r (by first | exact HBB.out | exact isb_drop HBB.out _) (by first | omega | (simp; omega)) (fun h => HS.out.x _ h.1 h.2 rfl)
  rw [hps, hE] at CP
  have HCP := Lib.hid CP
  clear CP
  go_wp2_with fail
  refine HCP.out.mono ?_
  rintro e w1 ⟨Ap, pp, rfl, op, bx, r, fr⟩
  clear HCP
  have hb9 := fr.size
  have fx : Fr (S3 gX gR gC) w w1 := H.t.trans fr (fun k _ h => by rcases h with h | h; exact .inr (.inl h); exact .inl h)
  have bc := H.c.fr fr (fun h => by rcases h with h | h; exact HS.out.rc h.symm; exact HS.out.xc h.symm)
  replace hF := hF.fr fr (fun h => by have := HS.out.lr; have := HS.out.lx; rcases h with h | h <;> omega)
  have H2 : Rg w w1 gX gR gC lo hi [] _ _ _ := ⟨bx, r, bc, fx⟩
  clear H k17 q17 bx r bc fx fr
  have H := H2
  clear H2
  replace op := OwnPm.low op hs9
  have k17 : w1.cell? ⟨gC, 17, none⟩ = some (.slice none 0 0) := H.c.cell 17
  have q17 := H.c.frozen 17
  go_upto_region 54 with fail
  have fp : Fr (only gC) w1 (w1.setCell ⟨gC, 17, none⟩ (.slice Ap ps.length pp)) := (Fr.refl _ _).set_only 17 none _
  replace op := OwnPm.fr op fp (fun k h1 h2 => by have h9 : k = gC := h2; have := HS.out.lc; omega)
  clear fp
  replace H := H.put HS.out 17 (.slice Ap ps.length pp)
  rw [ckA_17] at H
  replace hF := hF.far (p := ⟨gC, 17, none⟩) (by show w.heap.size ≠ gC; have := HS.out.lc; omega) (.slice Ap ps.length pp)
  generalize w1.setCell ⟨gC, 17, none⟩ (.slice Ap ps.length pp) = w2 at *
  clear k17 q17 cx0 cx1 cf ck
  have cx0 := H.x.cell 0
  have cx1 := H.x.cell 1
  have cf := hF.cell 0
  simp at cx0 cx1 cf
  by_cases hz : f = 0
  · have hzb : (f == 0) = true := beq_iff_eq.2 hz
    have HZ := Lib.hid hz
    clear hz
    go_wp2_with fail
    refine (end_calls _ _ _ _ _ _ H.r).mono ?_
    rintro e we ⟨rfl, hwe⟩
    rw [hwe]
    clear hwe
    go_wp2_with fail
    refine (must_calls gX _ _ _ _ H.x).mono ?_
    rintro e wz ⟨rfl, bz, fz⟩
    go_wp2
    first | go_end0 | ((try simp only [Exit.inBlock, Exit.then]); refine bodyPost_ret (results_none rfl _ _ _) rfl ?_)
    refine ⟨rfl, _, Blk.bool bz ?okT, H.c.fr fz (fun h => HS.out.xc (show gC = gX from h).symm), H.t.trans fz (fun k _ hk => .inl hk), fun hok => ?ckT⟩
    case okT => rw [end_eq, HOK.out, hE, Bool.eq_iff_iff]; have hz := HZ.out; by_cases he : E = 0 <;> simp [hz, he]
    case ckT => exact ⟨rfl, ckA_one rfl rfl rfl rfl rfl, rfl, rfl, rfl, rfl, rfl, rfl, rfl, rfl, rfl, rfl, rfl, rfl, rfl, rfl, ⟨none, 0, rfl, fun i h => absurd (show i < 0 from h) (Nat.not_lt_zero i)⟩, ⟨none, 0, rfl, fun i h => absurd (show i < 0 from h) (Nat.not_lt_zero i)⟩, ⟨none, 0, rfl, fun i h => absurd (show i < 0 from h) (Nat.not_lt_zero i)⟩, ⟨Ap, pp, by show _ = some (Value.slice Ap (dec xs).1.length pp); rw [hps]; rfl, by show PmC _ _ _ _ (dec xs).1; rw [hps]; exact ckv_ps (OwnPm.fr op fz (fun k h1 h2 => by have h9 : k = gX := h2; have := HS.out.lx; omega))⟩, ⟨none, 0, rfl, nilv _ _ _⟩⟩
  · have hzb : (f == 0) = false := beq_eq_false_iff_ne.2 hz
    have HZ := Lib.hid hz
    clear hz
    go_wp2_with fail
    refine (must_calls gX _ _ _ _ H.x).mono ?_
    rintro e wz ⟨rfl, bz, fz⟩
    go_wp2
    first | go_end0 | ((try simp only [Exit.inBlock, Exit.then]); refine bodyPost_ret (results_none rfl _ _ _) rfl ?_)
    have hno : rOk 9 f xs = false := (by rw [HOK.out]; simp [HZ.out])
    refine ⟨rfl, _, Blk.bool bz (by rw [hno]; simp), H.c.fr fz (fun h => HS.out.xc (show gC = gX from h).symm), H.t.trans fz (fun k _ hk => .inl hk), fun hok => by rw [hno] at hok; cases hok⟩
set_option maxHeartbeats 4000000 in
set_option maxRecDepth 100000 in
theorem read_130 (gX gR gC lo hi : Nat) (f : Int) (xs : List Int) (w : World) (H0 : Rg w w gX gR gC lo hi xs false false (z19 130)) (S : Sp w gX gR gC lo hi) (hB : IsB xs) (hl : xs.length ≤ 100000) (hf : 0 ≤ f ∧ f < 256) :
    Calls Try.prog 42 #[.pointer (some ⟨gX, 0, none⟩), .pointer (some ⟨gC, 0, none⟩), .int .u8 f] w (ReadP w gX gR gC 130 f xs) := by
  have hF := Blk.new w #[.int .u8 f] 5
  have H := H0.away S ((Fr.refl nothing w).alloc (.cells #[.int .u8 f] 5)) (fun k h => h.elim)
  have cx0 := H.x.cell 0
  have cx1 := H.x.cell 1
  have cf := hF.cell 0
  have ck : (w.alloc (.cells #[.int .u8 f] 5)).cell? ⟨gC, 0, none⟩ = some (.int .u8 130) := H.c.cell 0
  simp at cx0 cx1 cf
  have HS := Lib.hid S
  have HBB := Lib.hid hB
  clear H0 hB
  have hok : rOk 130 f xs = decide (f = 0 ∧ (dec xs).2 = 0) := rfl
  have HOK := Lib.hid hok
  clear hok
  go_enter Try.func42, Try.ntmps42
  have k17 : (w.alloc (.cells #[.int .u8 f] 5)).cell? ⟨gC, 17, none⟩ = some (.slice none 0 0) := H.c.cell 17
  have q17 := H.c.frozen 17
  have hs9 := H.t.size
  obtain ⟨ps, hps⟩ : ∃ x, (dec xs).1 = x := ⟨_, rfl⟩
  obtain ⟨E, hE⟩ : ∃ x, (dec xs).2 = x := ⟨_, rfl⟩
  have CP := params_calls gX gR lo hi xs _ _ _ H.x H.r (by first | exact HBB.out | exact isb_drop HBB.out _) (by first | omega | (simp; omega)) (fun h => HS.out.x _ h.1 h.2 rfl)
  rw [hps, hE] at CP
  have HCP := Lib.hid CP
  clear CP
  go_wp2_with fail
  refine HCP.out.mono ?_
  rintro e w1 ⟨Ap, pp, rfl, op, bx, r, fr⟩
  clear HCP
  have hb9 := fr.size
  have fx : Fr (S3 gX gR gC) w w1 := H.t.trans fr (fun k _ h => by rcases h with h | h; exact .inr (.inl h); exact .inl h)
  have bc := H.c.fr fr (fun h => by rcases h with h | h; exact HS.out.rc h.symm; exact HS.out.xc h.symm)
  replace hF := hF.fr fr (fun h => by have := HS.out.lr; have := HS.out.lx; rcases h with h | h <;> omega)
  have H2 : Rg w w1 gX gR gC lo hi [] _ _ _ := ⟨bx, r, bc, fx⟩
  clear H k17 q17 bx r bc fx fr
  have H := H2
  clear H2
  replace op := OwnPm.low op hs9
  have k17 : w1.cell? ⟨gC, 17, none⟩ = some (.slice none 0 0) := H.c.cell 17
  have q17 := H.c.frozen 17
  go_upto_region 54 with fail
  have fp : Fr (only gC) w1 (w1.setCell ⟨gC, 17, none⟩ (.slice Ap ps.length pp)) := (Fr.refl _ _).set_only 17 none _
  replace op := OwnPm.fr op fp (fun k h1 h2 => by have h9 : k = gC := h2; have := HS.out.lc; omega)
  clear fp
  replace H := H.put HS.out 17 (.slice Ap ps.length pp)
  rw [ckA_17] at H
  replace hF := hF.far (p := ⟨gC, 17, none⟩) (by show w.heap.size ≠ gC; have := HS.out.lc; omega) (.slice Ap ps.length pp)
  generalize w1.setCell ⟨gC, 17, none⟩ (.slice Ap ps.length pp) = w2 at *
  clear k17 q17 cx0 cx1 cf ck
  have cx0 := H.x.cell 0
  have cx1 := H.x.cell 1
  have cf := hF.cell 0
  simp at cx0 cx1 cf
  by_cases hz : f = 0
  · have hzb : (f == 0) = true := beq_iff_eq.2 hz
    have HZ := Lib.hid hz
    clear hz
    go_wp2_with fail
    refine (end_calls _ _ _ _ _ _ H.r).mono ?_
    rintro e we ⟨rfl, hwe⟩
    rw [hwe]
    clear hwe
    go_wp2_with fail
    refine (must_calls gX _ _ _ _ H.x).mono ?_
    rintro e wz ⟨rfl, bz, fz⟩
    go_wp2
    first | go_end0 | ((try simp only [Exit.inBlock, Exit.then]); refine bodyPost_ret (results_none rfl _ _ _) rfl ?_)
    refine ⟨rfl, _, Blk.bool bz ?okT, H.c.fr fz (fun h => HS.out.xc (show gC = gX from h).symm), H.t.trans fz (fun k _ hk => .inl hk), fun hok => ?ckT⟩
    case okT => rw [end_eq, HOK.out, hE, Bool.eq_iff_iff]; have hz := HZ.out; by_cases he : E = 0 <;> simp [hz, he]
    case ckT => exact ⟨rfl, ckA_one rfl rfl rfl rfl rfl, rfl, rfl, rfl, rfl, rfl, rfl, rfl, rfl, rfl, rfl, rfl, rfl, rfl, rfl, ⟨none, 0, rfl, fun i h => absurd (show i < 0 from h) (Nat.not_lt_zero i)⟩, ⟨none, 0, rfl, fun i h => absurd (show i < 0 from h) (Nat.not_lt_zero i)⟩, ⟨none, 0, rfl, fun i h => absurd (show i < 0 from h) (Nat.not_lt_zero i)⟩, ⟨Ap, pp, by show _ = some (Value.slice Ap (dec xs).1.length pp); rw [hps]; rfl, by show PmC _ _ _ _ (dec xs).1; rw [hps]; exact ckv_ps (OwnPm.fr op fz (fun k h1 h2 => by have h9 : k = gX := h2; have := HS.out.lx; omega))⟩, ⟨none, 0, rfl, nilv _ _ _⟩⟩
  · have hzb : (f == 0) = false := beq_eq_false_iff_ne.2 hz
    have HZ := Lib.hid hz
    clear hz
    go_wp2_with fail
    refine (must_calls gX _ _ _ _ H.x).mono ?_
    rintro e wz ⟨rfl, bz, fz⟩
    go_wp2
    first | go_end0 | ((try simp only [Exit.inBlock, Exit.then]); refine bodyPost_ret (results_none rfl _ _ _) rfl ?_)
    have hno : rOk 130 f xs = false := (by rw [HOK.out]; simp [HZ.out])
    refine ⟨rfl, _, Blk.bool bz (by rw [hno]; simp), H.c.fr fz (fun h => HS.out.xc (show gC = gX from h).symm), H.t.trans fz (fun k _ hk => .inl hk), fun hok => by rw [hno] at hok; cases hok⟩
end Go.Proofs.Ytaifihoheieneaa.Chk
