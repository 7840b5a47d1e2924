/- Contract of frag.Cut. Conditions: each names its blocks and the bounds. -/
import Derived.Test.YtnhkmapeleomkaaFragOwn
import Derived.Laws.BitsAllLaws
namespace Go.Proofs.Ytnhkmapeleomkaa.Frag
open Go.RowKit Go.Shelf Go.Proofs.Ytnhkmapeleomkaa.Mem Go.Proofs.Ytnhkmapeleomkaa.Octet
set_option linter.unusedVariables false
set_option linter.unusedSimpArgs false
attribute [local go_sem] Oper.semAt_some
/-- A message, as a value. -/
def msg (st : Int) (ls : Bool) (mid pp : Int) (A : Option Addr) (n c : Nat) : Value := .agg #[.int .u16 st, .bool ls, .int .u32 mid, .int .u32 pp, .slice A n c]
def room (inter : Bool) : Int := if inter then 1168 else 1172
theorem room_calls (b : Bool) (w : World) : Calls Try.prog 10 #[.bool b] w fun e w' => e = .returned (.int .i64 (room b)) ∧ w' = w := by
  cases b <;> go_enter Try.func10, Try.ntmps10 <;> go_wp2 <;> go_ret <;> exact ⟨rfl, rfl⟩
theorem rroom_calls (b : Bool) (w : World) : Calls Try.prog 11 #[.bool b] w fun e w' => e = .returned (.int .i64 (room b)) ∧ w' = w := by
  cases b <;> go_enter Try.func11, Try.ntmps11 <;> go_wp2 <;> go_ret <;> exact ⟨rfl, rfl⟩
theorem m16 {x : Int} (h0 : 0 ≤ x) (h1 : x < 4294967296) : bits .and .u32 x 65535 = x % 65536 := by
  have := u32_and_nat x.toNat 65535 (by omega) (by omega)
  rw [show ((x.toNat : Nat) : Int) = x by omega, show ((65535 : Nat) : Int) = 65535 by rfl, show (65535 : Nat) = 2 ^ 16 - 1 by rfl, Nat.and_two_pow_sub_one_eq_mod] at this
  rw [this]
  omega
/-- A piece, ahead of its ends. -/
def raw (st : Int) (ls : Bool) (mid pp : Int) (inter : Bool) (bs : List Int) (m k j : Nat) : Pc :=
  { kind := if inter then 64 else 0, bg := false, en := false, ls := ls, st := st, mid := if inter then mid else mid % 65536, pp := pp, fr := if inter then j else 0, body := (bs.drop (k * m)).take m }
def rawL (st : Int) (ls : Bool) (mid pp : Int) (inter : Bool) (bs : List Int) (m : Nat) (ks : List Nat) : List Pc := ks.zipIdx.map fun q => raw st ls mid pp inter bs m q.1 q.2
theorem rawL_snoc (st : Int) (ls : Bool) (mid pp : Int) (inter : Bool) (bs : List Int) (m : Nat) (ks : List Nat) (k : Nat) : rawL st ls mid pp inter bs m (ks ++ [k]) = rawL st ls mid pp inter bs m ks ++ [raw st ls mid pp inter bs m k ks.length] := by
  simp [rawL, List.zipIdx_append]
/-- How many pieces. -/
def npc (m : Nat) (bs : List Int) : Nat := (bs.length + m - 1) / m
/-- A piece with its ends. -/
def piece (st : Int) (ls : Bool) (mid pp : Int) (inter : Bool) (bs : List Int) (m i : Nat) : Pc := { raw st ls mid pp inter bs m i i with bg := decide (i = 0), en := decide (i + 1 = npc m bs) }
/-- The pieces of a message. -/
def pieces (st : Int) (ls : Bool) (mid pp : Int) (inter : Bool) (bs : List Int) (m : Nat) : List Pc := (List.range (npc m bs)).map (piece st ls mid pp inter bs m)
theorem pieces_len (st : Int) (ls : Bool) (mid pp : Int) (inter : Bool) (bs : List Int) (m : Nat) : (pieces st ls mid pp inter bs m).length = npc m bs := by simp [pieces]
theorem pieces_eq (st : Int) (ls : Bool) (mid pp : Int) (inter : Bool) (bs : List Int) (m N : Nat) (hN : npc m bs = N) (h0 : 0 < N) (h1 : 0 < (rawL st ls mid pp inter bs m (List.range N)).length) (h2 : N - 1 < ((rawL st ls mid pp inter bs m (List.range N)).set 0 { (rawL st ls mid pp inter bs m (List.range N))[0] with bg := true }).length) :
    ((rawL st ls mid pp inter bs m (List.range N)).set 0 { (rawL st ls mid pp inter bs m (List.range N))[0] with bg := true }).set (N - 1) { ((rawL st ls mid pp inter bs m (List.range N)).set 0 { (rawL st ls mid pp inter bs m (List.range N))[0] with bg := true })[N - 1] with en := true } = pieces st ls mid pp inter bs m := by
  apply List.ext_getElem
  · simp [rawL, pieces, hN]
  · intro i h3 h4
    have hi : i < N := by simpa [pieces, hN] using h4
    simp only [List.getElem_set, rawL, pieces, List.getElem_map, List.getElem_zipIdx, List.getElem_range, Nat.zero_add, piece, hN]
    by_cases e0 : i = 0
    · subst e0
      by_cases e1 : N - 1 = 0
      · have : N = 1 := by omega
        subst this
        simp [raw]
      · have : ¬ 1 = N := by omega
        simp [raw, e1, this]
    · have e0' : ¬ 0 = i := fun h => e0 h.symm
      by_cases e1 : N - 1 = i
      · have e2 : i + 1 = N := by omega
        have e3 : ¬ 0 = N - 1 := by omega
        simp [raw, e0, e0', e1, e2, e3]
      · have e2 : ¬ i + 1 = N := by omega
        simp [raw, e0, e0', e1, e2]
/-- The error of a cut; nought: none. -/
def cutE (most : Int) (inter : Bool) (n : Nat) : Int := if most < 1 ∨ room inter < most then 2 else if n = 0 then 42 else if 65536 < n then 43 else 0
set_option maxHeartbeats 1000000 in
set_option maxRecDepth 100000 in
theorem cut_bad (lo hi : Nat) (st mid pp : Int) (ls : Bool) (A : Option Addr) (c : Nat) (bs : List Int) (most : Int) (inter : Bool) (w : World) (he : cutE most inter bs.length ≠ 0) :
    Calls Try.prog 8 #[msg st ls mid pp A bs.length c, .int .i64 most, .bool inter] w fun e w' => e = .returned (.tuple #[.slice none 0 0, .int .i64 (cutE most inter bs.length)]) ∧ Below w.heap.size w w' := by
  have B1 : ∀ o o', Below w.heap.size w ((w.alloc o).alloc o') := fun o o' => ((Below.refl _ w).alloc (Nat.le_refl _) _).alloc (by simp) _
  unfold msg
  by_cases h1 : most < 1
  · have e : cutE most inter bs.length = 2 := by unfold cutE; rw [if_pos (.inl h1)]
    have HE := Lib.hid e
    have hd : decide (most < 1) = true := decide_eq_true h1
    clear he e h1
    go_enter Try.func8, Try.ntmps8
    go_wp2
    go_ret2
    rw [HE.out]
    exact ⟨rfl, B1 _ _⟩
  · have hd : decide (most < 1) = false := decide_eq_false h1
    by_cases h2 : room inter < most
    · have e : cutE most inter bs.length = 2 := by unfold cutE; rw [if_pos (.inr h2)]
      have HE := Lib.hid e
      clear he e h1
      go_enter Try.func8, Try.ntmps8
      go_wp2_with fail
      refine (room_calls inter _).mono ?_
      rintro e w1 ⟨rfl, rfl⟩
      go_wp2
      go_ret2
      rw [HE.out]
      exact ⟨rfl, B1 _ _⟩
    · by_cases h3 : bs.length = 0
      · have e : cutE most inter bs.length = 42 := by unfold cutE; rw [if_neg (by omega), if_pos h3]
        have HE := Lib.hid e
        have hd3 : ((bs.length : Int) == 0) = true := by simpa using h3
        clear he e h1 h3
        go_enter Try.func8, Try.ntmps8
        go_wp2_with fail
        refine (room_calls inter _).mono ?_
        rintro e w1 ⟨rfl, rfl⟩
        go_wp2
        go_ret2
        rw [HE.out]
        exact ⟨rfl, B1 _ _⟩
      · by_cases h4 : 65536 < bs.length
        · have e : cutE most inter bs.length = 43 := by unfold cutE; rw [if_neg (by omega), if_neg h3, if_pos h4]
          have HE := Lib.hid e
          have hd3 : ((bs.length : Int) == 0) = false := by simpa using h3
          have hd4 : decide ((65536 : Int) < bs.length) = true := decide_eq_true (by omega)
          clear he e h1 h3 h4
          go_enter Try.func8, Try.ntmps8
          go_wp2_with fail
          refine (room_calls inter _).mono ?_
          rintro e w1 ⟨rfl, rfl⟩
          go_wp2
          go_ret2
          rw [HE.out]
          exact ⟨rfl, B1 _ _⟩
        · exact absurd (show cutE most inter bs.length = 0 by unfold cutE; rw [if_neg (by omega), if_neg h3, if_neg h4]) he
end Go.Proofs.Ytnhkmapeleomkaa.Frag
