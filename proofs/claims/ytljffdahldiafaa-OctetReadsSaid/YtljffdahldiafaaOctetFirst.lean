/- What must be answered ahead of everything else, in package octet's laws. Conditions: none. -/
import Derived.Test.YtljffdahldiafaaOctetW
import Derived.Laws.BytesString
import Derived.Lib.BufferRead
import Derived.Lib.SlBytesConst
namespace Go.Proofs.Ytljffdahldiafaa.Octet
open Go.RowKit Go.Proofs.Ytljffdahldiafaa.Mem
set_option linter.unusedVariables false
set_option linter.unusedSimpArgs false

/-- The string of bytes. -/
def bstr (xs : List Int) : ByteArray := xs.foldl (fun r n => r.push (UInt8.ofNat n.toNat)) ByteArray.empty
theorem string_rd (w : World) (lo hi : Nat) (A : Option Addr) (c : Nat) (xs : List Int) (h : RdB w lo hi A xs) (hn : A = none → c = 0 ∧ xs = []) :
    (convert 22 9 (.slice A xs.length c)).run Try.prog w = .ok (.string (bstr xs)) w := by
  rcases A with _ | ad
  · obtain ⟨rfl, rfl⟩ := hn rfl
    exact Lib.run_convert_nil_bytes w 22 9 5 0 Try.underlying22 Try.underlying5 Try.underlying9
  · rw [run_convert_bytes_string w 22 9 5 _ _ _ Try.underlying22 Try.underlying5 Try.underlying9]
    refine run_bytesToString w ad _ _ xs ?_
    have := run_loadCells_list (P := Try.prog) w ad (xs.map (Value.int .u8)) (fun j v hj => by
      rcases h with rfl | ⟨ad', e, _, _, h⟩
      · simp at hj
      · injection e with e
        subst e
        have hl : j < xs.length := by
          rcases Nat.lt_or_ge j xs.length with h' | h'
          · exact h'
          · rw [List.getElem?_eq_none (by simpa using h')] at hj; cases hj
        rw [h j hl]
        simpa [hl] using hj)
    simpa using this
theorem OwnB.str {w : World} {base : Nat} {v : Value} {xs : List Int} (h : OwnB w base 5 v xs) :
    ∃ A n cap, v = .slice A n cap ∧ n = xs.length ∧ (convert 22 9 (.slice A n cap)).run Try.prog w = .ok (.string (bstr xs)) w := by
  obtain ⟨A, cap, rfl, h1, h2, h3, h4⟩ := SlB.of_own h
  exact ⟨A, _, cap, rfl, rfl, string_rd w _ _ A cap xs h4 (fun e => ⟨h3 e, List.eq_nil_of_length_eq_zero (by have := h3 e; omega)⟩)⟩
/-- A literal of bytes, converted. -/
theorem lit_slb (w : World) (cs : Array Value) (f : Nat × Nat) (ys : List Int) (hn : ys ≠ []) (hl : ys.length ≤ maxLen) (hcs : ∀ i (hi : i < ys.length), cs[i]? = some (.int .u8 ys[i])) :
    SlB (w.alloc (.cells cs 5 f)) 0 (w.heap.size + 1) (.slice (some ⟨w.heap.size, 0, none⟩) ys.length ys.length) ys := by
  refine ⟨_, _, rfl, Nat.le_refl _, hl, (fun h => by cases h), .inr ⟨_, rfl, Nat.zero_le _, Nat.lt_succ_self _, fun i hi => ?_⟩⟩
  have hc := cell_of_row (w.alloc (.cells cs 5 f)) w.heap.size i cs 5 f (heap_alloc_new w _)
  rw [hcs i hi] at hc
  rw [← hc]
  by_cases h0 : i = 0
  · subst h0; rfl
  · simp [Addr.add, h0]

theorem OwnB.rise {w : World} {b0 base : Nat} {e : TypeId} {v : Value} {xs : List Int} (h : OwnB w b0 e v xs) (hb : ∀ k, v.ownBlock = some k → base ≤ k) : OwnB w base e v xs := by
  rcases h.2 with h0 | ⟨g, cap, cur, rfl, hb', hg, rest⟩
  · exact ⟨h.1, .inl h0⟩
  · exact ⟨h.1, .inr ⟨g, cap, cur, rfl, hb g rfl, hg, rest⟩⟩
theorem Bl.trans {b : Nat} {w w1 w2 : World} (h : Below b w w1) (k : Below b w1 w2) : Below b w w2 :=
  ⟨k.os.trans h.os, k.tape.trans h.tape, k.output.trans h.output, Nat.le_trans h.size k.size, fun i hi => (k.block i hi).trans (h.block i hi)⟩
theorem Bl.low {b b' : Nat} {w w1 : World} (h : Below b w w1) (hb : b' ≤ b) : Below b' w w1 := ⟨h.os, h.tape, h.output, h.size, fun i hi => h.block i (by omega)⟩
theorem Bl.of_fr {b : Nat} {w w1 : World} {S : Nat → Prop} (f : Fr S w w1) (hb : b ≤ w.heap.size) (hs : ∀ k, S k → b ≤ k) : Below b w w1 :=
  ⟨f.os, f.tape, f.output, f.size, fun i hi => f.block i (by omega) (fun h => by have := hs i h; omega)⟩
theorem Bl.fr {b : Nat} {w w1 : World} (f : Below b w w1) : Fr (fun k => b ≤ k) w w1 := ⟨f.os, f.tape, f.output, f.size, fun i _ hn => f.block i (by omega)⟩
/-- A writer, all of whose memory lies from base on. -/
def WtrN (w : World) (base g : Nat) (bs : List Int) : Prop := ∃ v, Wtr w g v bs ∧ base ≤ g ∧ ∀ k, v.ownBlock = some k → base ≤ k
theorem WtrN.lt {w : World} {base g : Nat} {bs : List Int} (h : WtrN w base g bs) : base ≤ g ∧ g < w.heap.size := by
  obtain ⟨v, h1, h2, h3⟩ := h
  exact ⟨h2, h1.1.lt⟩
theorem WtrN.fr {w w' : World} {base g : Nat} {bs : List Int} {S : Nat → Prop} (h : WtrN w base g bs) (f : Fr S w w') (hs : ∀ k, k < w.heap.size → ¬ S k) : WtrN w' base g bs := by
  obtain ⟨v, h1, h2, h3⟩ := h
  exact ⟨v, h1.fr f (hs g h1.1.lt) (fun k hk => hs k (OwnB.lt h1.2 k hk)), h2, h3⟩
theorem WtrN.new (w : World) : WtrN (w.alloc (.cells #[.slice none 0 0] 26)) w.heap.size w.heap.size [] :=
  ⟨_, ⟨Blk.new w _ _, OwnB.nil _ _ _⟩, Nat.le_refl _, fun _ h => by cases h⟩
theorem WtrN.read {w w' : World} {base g gr lo hi : Nat} {bs bs' : List Int} {bad : Bool} (h : WtrN w base g bs) (r : Rdr w gr lo hi bs' bad) (f : Fr (only gr) w w') : WtrN w' base g bs := by
  obtain ⟨v, h1, h2, h3⟩ := h
  obtain ⟨v', hb, _⟩ := r
  exact ⟨v, h1.fr f (Blk.ne h1.1 hb (by decide)) (fun k hk e => OwnB.ne h1.2 hb (by decide) (by rw [hk, show k = gr from e])), h2, h3⟩
theorem put_n {w w' : World} {base g : Nat} {v : Value} {bs xs : List Int} {e : Ending} (hg : base ≤ g) (hk : ∀ k, v.ownBlock = some k → base ≤ k) (hw : g < w.heap.size) (h : PutP w g v bs xs e w') :
    e = .returned (.tuple #[]) ∧ WtrN w' base g (bs ++ xs) ∧ Below base w w' := by
  obtain ⟨rfl, v', h1, h2, h3⟩ := h
  refine ⟨rfl, ⟨v', h1, hg, fun k hk' => ?_⟩, Bl.of_fr h3 (by omega) (fun k hS => ?_)⟩
  · rcases h2 with h2 | ⟨b, h2, h4, _⟩
    · exact hk k (h2 ▸ hk')
    · rw [h2] at hk'; injection hk' with hk'; omega
  · rcases hS with e | e
    · omega
    · exact hk k e
def PutN (w : World) (base g : Nat) (bs xs : List Int) (e : Ending) (w' : World) : Prop := e = .returned (.tuple #[]) ∧ WtrN w' base g (bs ++ xs) ∧ Below base w w'
theorem putn_calls (base g lo hi : Nat) (x : Value) (bs xs : List Int) (w : World) (h : WtrN w base g bs) (hx : SlB w lo hi x xs) (hl : bs.length + xs.length ≤ 140737488355328) :
    Calls Try.prog 9 #[.pointer (some ⟨g, 0, none⟩), x] w (PutN w base g bs xs) := by
  obtain ⟨v, h1, h2, h3⟩ := h
  exact (put_calls g lo hi v x bs xs w h1 hx hl).mono fun e w' hp => put_n h2 h3 h1.1.lt hp
theorem u16n_calls (base g : Nat) (bs : List Int) (x : Int) (w : World) (h : WtrN w base g bs) (hl : bs.length + 2 ≤ 140737488355328) :
    Calls Try.prog 25 #[.pointer (some ⟨g, 0, none⟩), .int .u16 x] w (PutN w base g bs [x / 256 % 256, x % 256]) := by
  obtain ⟨v, h1, h2, h3⟩ := h
  exact (wu16_calls g v bs x w h1 hl).mono fun e w' hp => put_n h2 h3 h1.1.lt hp
theorem u8n_calls (base g : Nat) (bs : List Int) (x : Int) (w : World) (h : WtrN w base g bs) (hl : bs.length + 1 ≤ 140737488355328) :
    Calls Try.prog 23 #[.pointer (some ⟨g, 0, none⟩), .int .u8 x] w (PutN w base g bs [x]) := by
  obtain ⟨v, h1, h2, h3⟩ := h
  exact (wu8_calls g v bs x w h1 hl).mono fun e w' hp => put_n h2 h3 h1.1.lt hp
theorem u32n_calls (base g : Nat) (bs : List Int) (x : Int) (w : World) (h : WtrN w base g bs) (hl : bs.length + 4 ≤ 140737488355328) :
    Calls Try.prog 26 #[.pointer (some ⟨g, 0, none⟩), .int .u32 x] w (PutN w base g bs [x / 16777216 % 256, x / 65536 % 256, x / 256 % 256, x % 256]) := by
  obtain ⟨v, h1, h2, h3⟩ := h
  exact (wu32_calls g v bs x w h1 hl).mono fun e w' hp => put_n h2 h3 h1.1.lt hp
theorem padn_calls (base g : Nat) (bs : List Int) (n : Nat) (w : World) (h : WtrN w base g bs) (hl : bs.length + n ≤ 140737488355328) (hn : 0 < n) :
    Calls Try.prog 11 #[.pointer (some ⟨g, 0, none⟩), .int .i64 n] w (PutN w base g bs (List.replicate ((n - bs.length % n) % n) 0)) := by
  obtain ⟨v, h1, h2, h3⟩ := h
  exact (wpad_calls g v bs n w h1 hl hn).mono fun e w' hp => put_n h2 h3 h1.1.lt hp
theorem lenn_calls (base g : Nat) (bs : List Int) (w : World) (h : WtrN w base g bs) :
    Calls Try.prog 10 #[.pointer (some ⟨g, 0, none⟩)] w (fun e w' => e = .returned (.int .i64 bs.length) ∧ w' = w) := by
  obtain ⟨v, h1, h2, h3⟩ := h
  exact wlen_calls g v bs w h1
/-- Out: a row of its own, that reads as a string too. -/
def OutN (w : World) (base g : Nat) (bs : List Int) (e : Ending) (w' : World) : Prop :=
  ∃ A n cap, e = .returned (.slice A n cap) ∧ n = bs.length ∧ (convert 22 9 (.slice A n cap)).run Try.prog w' = .ok (.string (bstr bs)) w' ∧ OwnB w' w.heap.size 5 (.slice A n cap) bs ∧
    WtrN w' base g bs ∧ Below w.heap.size w w'
theorem outn_calls (base g : Nat) (bs : List Int) (w : World) (h : WtrN w base g bs) (hl : bs.length ≤ 140737488355328) :
    Calls Try.prog 12 #[.pointer (some ⟨g, 0, none⟩)] w (OutN w base g bs) := by
  have h0 := h
  obtain ⟨v, h1, h2, h3⟩ := h
  refine (wout_calls g v bs w h1 hl).mono ?_
  rintro e w' ⟨v', rfl, o, B⟩
  obtain ⟨A, n, cap, rfl, hn, hs⟩ := OwnB.str o
  exact ⟨A, n, cap, rfl, hn, hs, o, h0.fr (Fr.of_below (S := nothing) B) (fun _ _ h => h), B⟩
def TakeN (w : World) (g lo hi : Nat) (bs : List Int) (bad : Bool) (n : Int) (e : Ending) (w' : World) : Prop :=
  ∃ A k cap, e = .returned (.slice A k cap) ∧ k = (tk bs n).length ∧ (convert 22 9 (.slice A k cap)).run Try.prog w' = .ok (.string (bstr (tk bs n))) w' ∧ OwnB w' w.heap.size 5 (.slice A k cap) (tk bs n) ∧
    Rdr w' g lo hi (lf bs n) (bd bs bad n) ∧ Fr (only g) w w'
theorem taken_calls (g lo hi : Nat) (bs : List Int) (bad : Bool) (n : Int) (w : World) (h : Rdr w g lo hi bs bad) :
    Calls Try.prog 18 #[.pointer (some ⟨g, 0, none⟩), .int .i64 n] w (TakeN w g lo hi bs bad n) := by
  refine (take_calls g lo hi bs bad n w h).mono ?_
  rintro e w' ⟨v', rfl, o, r, f⟩
  obtain ⟨A, k, cap, rfl, hn, hs⟩ := OwnB.str o
  exact ⟨A, k, cap, rfl, hn, hs, o, r, f⟩
def FirstP (w : World) (e : Ending) (w' : World) : Prop := e = .returned (.bool true) ∧ Below w.heap.size w w'
set_option maxHeartbeats 1000000 in
theorem first_calls (w : World) : Calls Try.prog 8 #[] w (FirstP w) := by
  have kc := Lib.run_convert_bytes_const (P := Try.prog) (w.alloc (.cells #[.slice none 0 0] 26)) 22 5 #[.int .u8 97, .int .u8 98, .int .u8 99] 3 3 Try.underlying22 Try.underlying5
  rw [show (w.alloc (.cells #[.slice none 0 0] 26)).heap.size = w.heap.size + 1 by simp] at kc
  have W0 : WtrN ((w.alloc (.cells #[.slice none 0 0] 26)).alloc (.cells #[.int .u8 97, .int .u8 98, .int .u8 99] 5 (3, 4))) w.heap.size w.heap.size [] :=
    (WtrN.new w).fr (S := nothing) ((Fr.refl _ _).alloc _) (fun _ _ h => h)
  have X0 := lit_slb (w.alloc (.cells #[.slice none 0 0] 26)) #[.int .u8 97, .int .u8 98, .int .u8 99] (3, 4) [97, 98, 99] (by decide) (by decide) (by intro i hi; match i, hi with | 0, _ => rfl | 1, _ => rfl | 2, _ => rfl)
  rw [show (w.alloc (.cells #[.slice none 0 0] 26)).heap.size = w.heap.size + 1 by simp] at X0
  have huw := Try.underlying26
  go_enter Try.func8, Try.ntmps8
  go_wp2_with fail
  refine (putn_calls w.heap.size w.heap.size 0 (w.heap.size + 1 + 1) _ [] [97, 98, 99] _ W0 X0 (by decide)).mono ?_
  rintro e w1 ⟨rfl, W1, B1⟩
  replace B1 := Bl.trans (((Below.refl w.heap.size w).alloc (Nat.le_refl _) _).alloc (by simp) _) B1
  go_wp2_with fail
  refine (padn_calls w.heap.size _ _ 4 w1 W1 (by decide) (by decide)).mono ?_
  rintro e w2 ⟨rfl, W2, B2⟩
  replace B2 := Bl.trans B1 B2
  clear W1 B1
  go_wp2_with fail
  refine (u16n_calls w.heap.size _ _ 258 w2 W2 (by decide)).mono ?_
  rintro e w3 ⟨rfl, W3, B3⟩
  replace B3 := Bl.trans B2 B3
  clear W2 B2
  replace W3 : WtrN w3 w.heap.size w.heap.size [97, 98, 99, 0, 1, 2] := W3
  go_wp2_with fail
  refine (outn_calls w.heap.size _ _ w3 W3 (by decide)).mono ?_
  rintro e w4 ⟨A, n, cap, rfl, -, hs, o, W4, B4⟩
  replace B4 := Bl.trans B3 (Bl.low B4 B3.size)
  clear W3 hs B3
  go_wp2_with fail
  refine (new_calls _ _ _ _ w4 (SlB.of_own o) (by decide)).mono ?_
  rintro e w5 ⟨g, m, rfl, hm1, hm2, R5, B5⟩
  have W5 := W4.fr (S := nothing) (Fr.of_below B5) (fun _ _ h => h)
  have hgb : w.heap.size ≤ g := by have := B4.size; omega
  replace B5 := Bl.trans B4 (Bl.low B5 B4.size)
  clear W4 B4 o
  have IB : IsB [97, 98, 99, 0, 1, 2] := by intro x hx; simp at hx; omega
  go_wp2_with fail
  refine (outn_calls w.heap.size _ _ w5 W5 (by decide)).mono ?_
  rintro e w6 ⟨A, n, cap, rfl, -, hs, o, W6, B6⟩
  rw [show bstr [97, 98, 99, 0, 1, 2] = ⟨#[97, 98, 99, 0, 1, 2]⟩ from rfl] at hs
  have R6 := R5.fr (S := nothing) (Fr.of_below B6) (fun h => h) (fun _ _ _ h => h)
  replace B6 := Bl.trans B5 (Bl.low B6 B5.size)
  clear W5 B5 o R5 W6
  go_wp2_with fail
  refine (taken_calls g _ _ _ _ 3 w6 R6).mono ?_
  rintro e w7 ⟨A, n, cap, rfl, -, hs, -, R7, f7⟩
  rw [show tk [97, 98, 99, 0, 1, 2] 3 = [97, 98, 99] from rfl, show bstr [97, 98, 99] = ⟨#[97, 98, 99]⟩ from rfl] at hs
  replace R7 : Rdr w7 g w4.heap.size m [0, 1, 2] false := R7
  replace B6 := Bl.trans B6 (Bl.of_fr f7 B6.size (fun k hk => by have e : k = g := hk; omega))
  clear f7 R6
  go_wp2_with fail
  refine (u8_calls g _ _ [0, 1, 2] false w7 R7 (by intro x hx; simp at hx; try omega) (by obtain ⟨_, h, _⟩ := R7; exact h.lt)).mono ?_
  rintro e w8 ⟨he, R8, f⟩
  rw [show num (tk [0, 1, 2] 1) = 0 from rfl] at he
  subst he
  replace B6 := Bl.trans B6 (Bl.of_fr f B6.size (fun k hk => by have e : k = g := hk; omega))
  clear f R7
  replace R8 : Rdr w8 g w4.heap.size m [1, 2] false := R8
  go_wp2_with fail
  refine (u16_calls g _ _ [1, 2] false w8 R8 (by intro x hx; simp at hx; try omega) (by obtain ⟨_, h, _⟩ := R8; exact h.lt)).mono ?_
  rintro e w9 ⟨he, R9, f⟩
  rw [show num (tk [1, 2] 2) = 258 from rfl] at he
  subst he
  replace B6 := Bl.trans B6 (Bl.of_fr f B6.size (fun k hk => by have e : k = g := hk; omega))
  clear f R8
  replace R9 : Rdr w9 g w4.heap.size m [] false := R9
  go_wp2_with fail
  refine (end_calls g _ _ _ _ w9 R9).mono ?_
  rintro e w' ⟨he, rfl⟩
  rw [show endOf [] false = 0 from rfl] at he
  subst he
  go_wp2_with fail
  refine (u8_calls g _ _ [] false w' R9 (by intro x hx; simp at hx; try omega) (by obtain ⟨_, h, _⟩ := R9; exact h.lt)).mono ?_
  rintro e w10 ⟨he, R10, f⟩
  rw [show num (tk [] 1) = 0 from rfl] at he
  subst he
  replace B6 := Bl.trans B6 (Bl.of_fr f B6.size (fun k hk => by have e : k = g := hk; omega))
  clear f R9
  replace R10 : Rdr w10 g w4.heap.size m [] true := R10
  go_wp2_with fail
  refine (end_calls g _ _ _ _ w10 R10).mono ?_
  rintro e w'' ⟨he, rfl⟩
  rw [show endOf [] true = 40 from rfl] at he
  subst he
  go_wp2
  go_ret
  exact ⟨rfl, B6⟩
end Go.Proofs.Ytljffdahldiafaa.Octet
