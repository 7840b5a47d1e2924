/- Messages as arguments, a row of one chunk, pieces put together. Conditions: the row's own. -/
import Derived.Test.YtnhkmapeleomkaaPktOne
import Derived.Great.BuildSlice
namespace Go.Proofs.Ytnhkmapeleomkaa.Frag
open Go.RowKit Go.Proofs.Ytnhkmapeleomkaa.Mem Go.Proofs.Ytnhkmapeleomkaa.Octet Go.Proofs.Ytnhkmapeleomkaa.Chk Go.Proofs.Ytnhkmapeleomkaa.Pkt Go.Proofs.Ytnhkmapeleomkaa.Prm
set_option linter.unusedVariables false
set_option linter.unusedSimpArgs false
theorem msg_of_see2 {w : World} {cs : List Value} (h : Sees Try.prog w 26 cs) :
    ∃ (st mid pp : Int) (ls : Bool) (A : Option Addr) (c : Nat) (bs : List Int), (.agg ⟨cs⟩ : Value) = msg st ls mid pp A bs.length c ∧ SlB w 0 w.heap.size (.slice A bs.length c) bs ∧ (0 ≤ mid ∧ mid < 4294967296) ∧ bs.length ≤ 9223372036854775807 ∧ (0 ≤ st ∧ st < 65536) ∧ (0 ≤ pp ∧ pp < 4294967296) ∧ IsB bs := by
  obtain ⟨g1, g2⟩ := sees_struct Try.underlying26 h
  have c5 : Try.prog.cellsOf 26 = 5 := by kernel_rfl
  have n1 : Try.prog.cellsOf 22 = 1 := by kernel_rfl
  have n2 : Try.prog.cellsOf 4 = 1 := by kernel_rfl
  have n3 : Try.prog.cellsOf 23 = 1 := by kernel_rfl
  have n4 : Try.prog.cellsOf 24 = 1 := by kernel_rfl
  have n5 : Try.prog.cellsOf 5 = 1 := by kernel_rfl
  rw [c5] at g1
  match cs, g1 with
  | [v0, v1, v2, v3, v4], _ =>
    have f0 := g2 _ (List.Mem.head _)
    have f1 := g2 _ (List.Mem.tail _ (List.Mem.head _))
    have f2 := g2 _ (List.Mem.tail _ (List.Mem.tail _ (List.Mem.head _)))
    have f3 := g2 _ (List.Mem.tail _ (List.Mem.tail _ (List.Mem.tail _ (List.Mem.head _))))
    have f4 := g2 _ (List.Mem.tail _ (List.Mem.tail _ (List.Mem.tail _ (List.Mem.tail _ (List.Mem.head _)))))
    simp only [n1, n2, n3, n4, List.drop, List.take] at f0 f1 f2 f3 f4
    obtain ⟨st, e0, z0⟩ := sees_int Try.underlying22 f0
    obtain ⟨ls, e1⟩ := sees_bool Try.underlying4 f1
    obtain ⟨mid, e2, z2⟩ := sees_int Try.underlying23 f2
    obtain ⟨pp, e3, z3⟩ := sees_int Try.underlying23 f3
    simp only [List.cons.injEq, and_true] at e0 e1 e2 e3
    have e4 : ∃ A3 l3 p3, v4 = .slice A3 l3 p3 := by
      rcases sees_slice Try.underlying24 f4 with h | ⟨_, _, _, h, _⟩
      · injection h with h _; exact ⟨_, _, _, h⟩
      · injection h with h _; exact ⟨_, _, _, h⟩
    obtain ⟨A3, l3, p3, rfl⟩ := e4
    obtain ⟨l, rfl, hr, hc, hm, hw, hn⟩ := sees_ints Try.underlying24 Try.underlying5 n5 f4
    subst e0; subst e1; subst e2; subst e3
    refine ⟨st, mid, pp, ls, A3, p3, l, rfl, ⟨A3, p3, rfl, hc, hm, hn, rdb_of hr⟩, ?_, by unfold maxLen at hm; omega, ?_, ?_, fun x hx => range_u8 x (hw x hx)⟩
    · simp [Lit.wf] at z2
      rw [show IntKind.u32.min = 0 by rfl, show IntKind.u32.max = 4294967295 by rfl] at z2
      omega
    · simp [Lit.wf] at z0
      rw [show IntKind.u16.min = 0 by rfl, show IntKind.u16.max = 65535 by rfl] at z0
      omega
    · simp [Lit.wf] at z3
      rw [show IntKind.u32.min = 0 by rfl, show IntKind.u32.max = 4294967295 by rfl] at z3
      omega
theorem oper_build_1 {o : Oper} {a : Act} {w : World} {K : Act → World → Prop} {Q : Exit → Act → World → Prop} (x : Operand) (cs : Array Value) (ho : o.op = .buildSlice 28 1 #[(0, x)]) (hx : a.eval x = .agg cs) (hs : cs.size = 19)
    (h : K (a.put o.dst (.slice (some ⟨w.heap.size, 0, none⟩) 1 1)) (w.alloc (.cells cs 42))) : o.wp Try.prog a w K Q := by
  obtain ⟨i0, hi0, hz0, hz1, hz2⟩ := info_parts info_c
  refine wp_buildSlice _ _ 1 #[(0, x)] ho cs i0 _ Try.underlying28 hi0 hz0 (by rw [hz1]; decide) (by rw [hz1]; decide) ?_ h
  rw [hz1]
  have e9 : ((#[(0, x)] : Array (Nat × Operand)).map fun (i, x) => (i, a.eval x)).toList = [(0, .agg cs)] := by simp [hx]
  rw [e9]
  obtain ⟨r, h1, h2, h3⟩ := Great.fill_dense (s := 19) (by decide) [.agg cs] 0 ((Array.range (1 * 19)).map fun i => (Value.agg #[.int .u8 0, .bool false, .bool false, .bool false, .bool false, .int .u32 0, .int .u16 0, .int .u32 0, .int .u32 0, .int .u32 0, .int .u32 0, .int .u32 0, .int .u16 0, .int .u16 0, .slice none 0 0, .slice none 0 0, .slice none 0 0, .slice none 0 0, .slice none 0 0]).cells[i % (Value.agg #[.int .u8 0, .bool false, .bool false, .bool false, .bool false, .int .u32 0, .int .u16 0, .int .u32 0, .int .u32 0, .int .u32 0, .int .u32 0, .int .u32 0, .int .u16 0, .int .u16 0, .slice none 0 0, .slice none 0 0, .slice none 0 0, .slice none 0 0, .slice none 0 0]).cells.size]!) (by intro v hv; rw [List.mem_singleton] at hv; subst hv; exact hs) (by simp)
  rw [show ([(0, Value.agg cs)] : List (Nat × Value)) = ([Value.agg cs].zipIdx 0).map fun x => (x.2, x.1) from rfl, h1]
  congr 1
  apply Array.ext_getElem?
  intro k
  rw [h3 k]
  by_cases hk : k < 19
  · rw [if_pos (by simp; exact hk), Nat.div_eq_of_lt hk, Nat.mod_eq_of_lt hk]
    rfl
  · rw [if_neg (by simp; omega), Array.getElem?_eq_none (by simp; omega), Array.getElem?_eq_none (by omega)]
/-- A piece as a chunk. -/
def ckP (kk : Int) (b e ls : Bool) (st mid pp fr : Int) (xs : List Int) : Ck := ⟨kk, b, e, ls, false, 0, st, mid, pp, fr, 0, 0, 0, 0, [], [], [], [], xs⟩
theorem ckP_v {kk : Int} {b e ls : Bool} {st mid pp fr : Int} {xs : List Int} {w : World} {lo hi : Nat} {As : Option Addr} {c : Nat} (X : SlB w lo hi (.slice As xs.length c) xs) :
    CkV w lo hi ([.int .u8 kk, .bool b, .bool e, .bool ls, .bool false, .int .u32 0, .int .u16 st, .int .u32 mid, .int .u32 pp, .int .u32 fr, .int .u32 0, .int .u32 0, .int .u16 0, .int .u16 0, .slice none 0 0, .slice none 0 0, .slice none 0 0, .slice none 0 0, .slice As xs.length c] : List Value).toArray (ckP kk b e ls st mid pp fr xs) :=
  ⟨rfl, by simp [Value.oneCell'], rfl, rfl, rfl, rfl, rfl, rfl, rfl, rfl, rfl, rfl, rfl, rfl, rfl, rfl, ⟨none, 0, rfl, fun i h => absurd (show i < 0 from h) (Nat.not_lt_zero i)⟩, ⟨none, 0, rfl, fun i h => absurd (show i < 0 from h) (Nat.not_lt_zero i)⟩,
    ⟨none, 0, rfl, fun i h => absurd (show i < 0 from h) (Nat.not_lt_zero i)⟩, ⟨none, 0, rfl, fun i h => absurd (show i < 0 from h) (Nat.not_lt_zero i)⟩, ⟨As, c, rfl, X⟩⟩
theorem z32 : (0 : Int) ≤ 0 ∧ (0 : Int) < 4294967296 := by decide
theorem z16 : (0 : Int) ≤ 0 ∧ (0 : Int) < 65536 := by decide
theorem ckP_b {kk : Int} {b e ls : Bool} {st mid pp fr : Int} {xs : List Int} (hk : kk = 0 ∨ kk = 64) (h1 : 0 ≤ st ∧ st < 65536) (h2 : 0 ≤ mid ∧ mid < 4294967296) (h3 : 0 ≤ pp ∧ pp < 4294967296) (h4 : 0 ≤ fr ∧ fr < 4294967296) (hB : IsB xs) : CkB (ckP kk b e ls st mid pp fr xs) :=
  ⟨by show 0 ≤ kk ∧ kk < 256; omega, z32, h1, h2, h3, h4, z32, z32, z16, z16, fun g h => (nomatch h), fun g h => (nomatch h), fun g h => (nomatch h), fun g h => (nomatch h), hB⟩
theorem ckP_l {kk : Int} {b e ls : Bool} {st mid pp fr : Int} {xs : List Int} (hl : xs.length ≤ 1172) : CkL (ckP kk b e ls st mid pp fr xs) :=
  ⟨by show 0 ≤ 1000000000; omega, by show 0 ≤ 1000000000; omega, by show 0 ≤ 1000000000; omega, by show 0 ≤ 1000000000; omega, by show 0 ≤ 1000000000; omega, by show xs.length ≤ 1000000000; omega⟩
theorem ckP_e {kk : Int} {b e ls : Bool} {st mid pp fr : Int} {xs : List Int} (hk : kk = 0 ∧ xs.length ≤ 1172 ∨ kk = 64 ∧ xs.length ≤ 1168) (hn : 0 < xs.length) : cE (ckP kk b e ls st mid pp fr xs) = 0 ∧ (cB (ckP kk b e ls st mid pp fr xs)).length ≤ 1188 := by
  have hne : xs ≠ [] := fun h => by rw [h] at hn; cases hn
  have hbl : (bB (ckP kk b e ls st mid pp fr xs)).length + 4 ≤ 1188 := by
    unfold bB ckP
    rcases hk with ⟨rfl, hl⟩ | ⟨rfl, hl⟩
    · rw [if_pos rfl]
      simp only [List.length_append, b16_len, b32_len]
      omega
    · rw [if_neg (show ¬ (64 : Int) = 0 by decide), if_pos rfl]
      simp only [List.length_append, b16_len, b32_len]
      omega
  have hbe : bE (ckP kk b e ls st mid pp fr xs) = 0 := by
    unfold bE ckP
    rw [if_pos (show kk = 0 ∨ kk = 64 by omega), if_neg hne]
  have hkn : kn (ckP kk b e ls st mid pp fr xs).k = true := by
    show kn kk = true
    rcases hk with ⟨rfl, _⟩ | ⟨rfl, _⟩ <;> rfl
  refine ⟨cE_ok hkn hbe (by omega), ?_⟩
  unfold cB
  simp only [List.length_append, List.length_cons, List.length_nil, b16_len, List.length_replicate]
  omega
theorem joined (bs : List Int) (k j : Nat) : bs.take ((j + 1) * k) = bs.take (j * k) ++ (bs.drop (j * k)).take k := by
  rw [Nat.add_mul, Nat.one_mul, List.take_add]
theorem joined_all (bs : List Int) (k : Nat) (hk : 1 ≤ k) : bs.take (npc k bs * k) = bs := by
  apply List.take_of_length_le
  unfold npc
  have := Nat.div_add_mod (bs.length + k - 1) k
  have := Nat.mod_lt (bs.length + k - 1) hk
  have e := Nat.mul_comm ((bs.length + k - 1) / k) k
  omega
theorem body_len (bs : List Int) (k j : Nat) (hk : 1 ≤ k) (hj : j < npc k bs) : 0 < ((bs.drop (j * k)).take k).length ∧ ((bs.drop (j * k)).take k).length ≤ k ∧ (j + 1 < npc k bs → ((bs.drop (j * k)).take k).length = k) := by
  rw [List.length_take, List.length_drop]
  unfold npc at *
  have h1 : (j + 1) * k ≤ (bs.length + k - 1) / k * k := Nat.mul_le_mul_right k hj
  have h2 := Nat.div_mul_le_self (bs.length + k - 1) k
  have h3 : (j + 1) * k = j * k + k := by rw [Nat.add_mul, Nat.one_mul]
  refine ⟨by omega, by omega, fun h => ?_⟩
  have h4 : (j + 1 + 1) * k ≤ (bs.length + k - 1) / k * k := Nat.mul_le_mul_right k h
  have h5 : (j + 1 + 1) * k = j * k + k + k := by rw [Nat.add_mul, Nat.one_mul, h3]
  omega
theorem piece_all (st : Int) (ls : Bool) (mid pp : Int) (inter : Bool) (bs : List Int) (k j : Nat) (h : j < (pieces st ls mid pp inter bs k).length) :
    (pieces st ls mid pp inter bs k)[j] = { kind := if inter then 64 else 0, bg := decide (j = 0), en := decide (j + 1 = npc k bs), ls := ls, st := st, mid := if inter then mid else mid % 65536, pp := pp, fr := if inter then j else 0, body := (bs.drop (j * k)).take k } := by
  simp [pieces, piece, raw]
end Go.Proofs.Ytnhkmapeleomkaa.Frag
