/- A writer beside blocks that are to be let alone. Conditions: each names its blocks and the bounds. -/
import Derived.Test.YtaifihoheieneaaOcN
namespace Go.Proofs.Ytaifihoheieneaa.Octet
open Go.RowKit Go.Proofs.Ytaifihoheieneaa.Mem
set_option linter.unusedVariables false
set_option linter.unusedSimpArgs false
/-- A writer at g, all of it from base on, none of it in F. -/
def WtrF (F : Nat → Prop) (w : World) (base g : Nat) (bs : List Int) : Prop :=
  ∃ v, Wtr w g v bs ∧ base ≤ g ∧ ¬ F g ∧ (∀ k, v.ownBlock = some k → base ≤ k ∧ ¬ F k) ∧ (∀ k, F k → k < w.heap.size)
abbrev OwnF (F : Nat → Prop) (base : Nat) : Nat → Prop := fun k => base ≤ k ∧ ¬ F k
def PutF (F : Nat → Prop) (w : World) (base g : Nat) (bs xs : List Int) (e : Ending) (w' : World) : Prop := e = .returned (.tuple #[]) ∧ WtrF F w' base g (bs ++ xs) ∧ Fr (OwnF F base) w w'
theorem WtrF.of {w : World} {base g : Nat} {bs : List Int} (h : WtrN w base g bs) : WtrF nothing w base g bs := by
  obtain ⟨v, h1, h2, h3⟩ := h
  exact ⟨v, h1, h2, id, fun k hk => ⟨h3 k hk, id⟩, fun k h => h.elim⟩
theorem WtrF.free {F : Nat → Prop} {w : World} {base g : Nat} {bs : List Int} (h : WtrF F w base g bs) : WtrN w base g bs := by
  obtain ⟨v, h1, h2, h3, h4, h5⟩ := h
  exact ⟨v, h1, h2, fun k hk => (h4 k hk).1⟩
/-- New blocks, to be let alone from here on. -/
theorem WtrF.hold {w w' : World} {base g : Nat} {bs : List Int} {F : Nat → Prop} (h : WtrN w base g bs) (f : Below w.heap.size w w') (h1 : ∀ k, F k → w.heap.size ≤ k) (h2 : ∀ k, F k → k < w'.heap.size) : WtrF F w' base g bs := by
  obtain ⟨v, a1, a2, a3⟩ := h
  refine ⟨v, a1.fr (S := nothing) (Fr.of_below f) id (fun _ _ h => h), a2, fun hF => ?_, fun k hk => ⟨a3 k hk, fun hF => ?_⟩, h2⟩
  · have := h1 g hF; have := a1.1.lt; omega
  · have := h1 k hF; have := OwnB.lt a1.2 k hk; omega
theorem WtrF.fr {F : Nat → Prop} {w w' : World} {base g : Nat} {bs : List Int} (h : WtrF F w base g bs) (f : Below w.heap.size w w') : WtrF F w' base g bs := by
  obtain ⟨v, a1, a2, a3, a4, a5⟩ := h
  exact ⟨v, a1.fr (S := nothing) (Fr.of_below f) id (fun _ _ h => h), a2, a3, a4, fun k hk => Nat.lt_of_lt_of_le (a5 k hk) f.size⟩
theorem put_f {F : Nat → Prop} {w w' : World} {base g : Nat} {v : Value} {bs xs : List Int} {e : Ending} (h1 : Wtr w g v bs) (h2 : base ≤ g) (h3 : ¬ F g) (h4 : ∀ k, v.ownBlock = some k → base ≤ k ∧ ¬ F k) (h5 : ∀ k, F k → k < w.heap.size)
    (h : PutP w g v bs xs e w') : PutF F w base g bs xs e w' := by
  obtain ⟨rfl, v', a1, a2, a3⟩ := h
  refine ⟨rfl, ⟨v', a1, h2, h3, fun k hk => ?_, fun k hk => Nat.lt_of_lt_of_le (h5 k hk) a3.size⟩, a3.mono (fun k _ hS => ?_)⟩
  · rcases a2 with e | ⟨b, e, l1, l2⟩
    · exact h4 k (e ▸ hk)
    · rw [e] at hk; injection hk with hk
      subst hk
      exact ⟨by have := h1.1.lt; omega, fun hF => by have := h5 _ hF; omega⟩
  · rcases hS with rfl | hS
    · exact ⟨h2, h3⟩
    · exact h4 k hS
theorem putf_calls (F : Nat → Prop) (base g lo hi : Nat) (x : Value) (bs xs : List Int) (w : World) (h : WtrF F w base g bs) (hx : SlB w lo hi x xs) (hl : bs.length + xs.length ≤ 140737488355328) :
    Calls Try.prog 28 #[.pointer (some ⟨g, 0, none⟩), x] w (PutF F w base g bs xs) := by
  obtain ⟨v, h1, h2, h3, h4, h5⟩ := h
  exact (put_calls g lo hi v x bs xs w h1 hx hl).mono fun e w' hp => put_f h1 h2 h3 h4 h5 hp
theorem u8f_calls (F : Nat → Prop) (base g : Nat) (bs : List Int) (x : Int) (w : World) (h : WtrF F w base g bs) (hl : bs.length + 1 ≤ 140737488355328) :
    Calls Try.prog 25 #[.pointer (some ⟨g, 0, none⟩), .int .u8 x] w (PutF F w base g bs [x]) := by
  obtain ⟨v, h1, h2, h3, h4, h5⟩ := h
  exact (wu8_calls g v bs x w h1 hl).mono fun e w' hp => put_f h1 h2 h3 h4 h5 hp
theorem u16f_calls (F : Nat → Prop) (base g : Nat) (bs : List Int) (x : Int) (w : World) (h : WtrF F w base g bs) (hl : bs.length + 2 ≤ 140737488355328) :
    Calls Try.prog 27 #[.pointer (some ⟨g, 0, none⟩), .int .u16 x] w (PutF F w base g bs [x / 256 % 256, x % 256]) := by
  obtain ⟨v, h1, h2, h3, h4, h5⟩ := h
  exact (wu16_calls g v bs x w h1 hl).mono fun e w' hp => put_f h1 h2 h3 h4 h5 hp
theorem u32f_calls (F : Nat → Prop) (base g : Nat) (bs : List Int) (x : Int) (w : World) (h : WtrF F w base g bs) (hl : bs.length + 4 ≤ 140737488355328) :
    Calls Try.prog 47 #[.pointer (some ⟨g, 0, none⟩), .int .u32 x] w (PutF F w base g bs [x / 16777216 % 256, x / 65536 % 256, x / 256 % 256, x % 256]) := by
  obtain ⟨v, h1, h2, h3, h4, h5⟩ := h
  exact (wu32_calls g v bs x w h1 hl).mono fun e w' hp => put_f h1 h2 h3 h4 h5 hp
theorem padf_calls (F : Nat → Prop) (base g : Nat) (bs : List Int) (n : Nat) (w : World) (h : WtrF F w base g bs) (hl : bs.length + n ≤ 140737488355328) (hn : 0 < n) :
    Calls Try.prog 30 #[.pointer (some ⟨g, 0, none⟩), .int .i64 n] w (PutF F w base g bs (List.replicate ((n - bs.length % n) % n) 0)) := by
  obtain ⟨v, h1, h2, h3, h4, h5⟩ := h
  exact (wpad_calls g v bs n w h1 hl hn).mono fun e w' hp => put_f h1 h2 h3 h4 h5 hp
end Go.Proofs.Ytaifihoheieneaa.Octet
