/- Writers and readers whose blocks are all new. Conditions: each names its blocks and the bounds. -/
import Derived.Test.YtaifihoheieneaaOcW
namespace Go.Proofs.Ytaifihoheieneaa.Octet
open Go.RowKit Go.Proofs.Ytaifihoheieneaa.Mem
set_option linter.unusedVariables false
set_option linter.unusedSimpArgs false

/-- A writer, all of whose memory lies from base on. -/
def WtrN (w : World) (base g : Nat) (bs : List Int) : Prop := ∃ v, Wtr w g v bs ∧ base ≤ g ∧ ∀ k, v.ownBlock = some k → base ≤ k
theorem WtrN.lt {w : World} {base g : Nat} {bs : List Int} (h : WtrN w base g bs) : base ≤ g ∧ g < w.heap.size := by
  obtain ⟨v, h1, h2, h3⟩ := h
  exact ⟨h2, h1.1.lt⟩
theorem WtrN.fr {w w' : World} {base g : Nat} {bs : List Int} {S : Nat → Prop} (h : WtrN w base g bs) (f : Fr S w w') (hs : ∀ k, k < w.heap.size → ¬ S k) : WtrN w' base g bs := by
  obtain ⟨v, h1, h2, h3⟩ := h
  exact ⟨v, h1.fr f (hs g h1.1.lt) (fun k hk => hs k (OwnB.lt h1.2 k hk)), h2, h3⟩
theorem WtrN.new (w : World) : WtrN (w.alloc (.cells #[.slice none 0 0] 60)) w.heap.size w.heap.size [] :=
  ⟨_, ⟨Blk.new w _ _, OwnB.nil _ _ _⟩, Nat.le_refl _, fun _ h => by cases h⟩
theorem WtrN.read {w w' : World} {base g gr lo hi : Nat} {bs bs' : List Int} {bad : Bool} (h : WtrN w base g bs) (r : Rdr w gr lo hi bs' bad) (f : Fr (only gr) w w') : WtrN w' base g bs := by
  obtain ⟨v, h1, h2, h3⟩ := h
  obtain ⟨v', hb, _⟩ := r
  exact ⟨v, h1.fr f (Blk.ne h1.1 hb (by decide)) (fun k hk e => OwnB.ne h1.2 hb (by decide) (by rw [hk, show k = gr from e])), h2, h3⟩
theorem put_n {w w' : World} {base g : Nat} {v : Value} {bs xs : List Int} {e : Ending} (hg : base ≤ g) (hk : ∀ k, v.ownBlock = some k → base ≤ k) (hw : g < w.heap.size) (h : PutP w g v bs xs e w') :
    e = .returned (.tuple #[]) ∧ WtrN w' base g (bs ++ xs) ∧ Below base w w' := by
  obtain ⟨rfl, v', h1, h2, h3⟩ := h
  refine ⟨rfl, ⟨v', h1, hg, fun k hk' => ?_⟩, Bl.of_fr h3 (by omega) (fun k hS => ?_)⟩
  · rcases h2 with h2 | ⟨b, h2, h4, _⟩
    · exact hk k (h2 ▸ hk')
    · rw [h2] at hk'; injection hk' with hk'; omega
  · rcases hS with e | e
    · omega
    · exact hk k e
def PutN (w : World) (base g : Nat) (bs xs : List Int) (e : Ending) (w' : World) : Prop := e = .returned (.tuple #[]) ∧ WtrN w' base g (bs ++ xs) ∧ Below base w w'
theorem putn_calls (base g lo hi : Nat) (x : Value) (bs xs : List Int) (w : World) (h : WtrN w base g bs) (hx : SlB w lo hi x xs) (hl : bs.length + xs.length ≤ 140737488355328) :
    Calls Try.prog 28 #[.pointer (some ⟨g, 0, none⟩), x] w (PutN w base g bs xs) := by
  obtain ⟨v, h1, h2, h3⟩ := h
  exact (put_calls g lo hi v x bs xs w h1 hx hl).mono fun e w' hp => put_n h2 h3 h1.1.lt hp
theorem u16n_calls (base g : Nat) (bs : List Int) (x : Int) (w : World) (h : WtrN w base g bs) (hl : bs.length + 2 ≤ 140737488355328) :
    Calls Try.prog 27 #[.pointer (some ⟨g, 0, none⟩), .int .u16 x] w (PutN w base g bs [x / 256 % 256, x % 256]) := by
  obtain ⟨v, h1, h2, h3⟩ := h
  exact (wu16_calls g v bs x w h1 hl).mono fun e w' hp => put_n h2 h3 h1.1.lt hp
theorem u8n_calls (base g : Nat) (bs : List Int) (x : Int) (w : World) (h : WtrN w base g bs) (hl : bs.length + 1 ≤ 140737488355328) :
    Calls Try.prog 25 #[.pointer (some ⟨g, 0, none⟩), .int .u8 x] w (PutN w base g bs [x]) := by
  obtain ⟨v, h1, h2, h3⟩ := h
  exact (wu8_calls g v bs x w h1 hl).mono fun e w' hp => put_n h2 h3 h1.1.lt hp
theorem u32n_calls (base g : Nat) (bs : List Int) (x : Int) (w : World) (h : WtrN w base g bs) (hl : bs.length + 4 ≤ 140737488355328) :
    Calls Try.prog 47 #[.pointer (some ⟨g, 0, none⟩), .int .u32 x] w (PutN w base g bs [x / 16777216 % 256, x / 65536 % 256, x / 256 % 256, x % 256]) := by
  obtain ⟨v, h1, h2, h3⟩ := h
  exact (wu32_calls g v bs x w h1 hl).mono fun e w' hp => put_n h2 h3 h1.1.lt hp
theorem padn_calls (base g : Nat) (bs : List Int) (n : Nat) (w : World) (h : WtrN w base g bs) (hl : bs.length + n ≤ 140737488355328) (hn : 0 < n) :
    Calls Try.prog 30 #[.pointer (some ⟨g, 0, none⟩), .int .i64 n] w (PutN w base g bs (List.replicate ((n - bs.length % n) % n) 0)) := by
  obtain ⟨v, h1, h2, h3⟩ := h
  exact (wpad_calls g v bs n w h1 hl hn).mono fun e w' hp => put_n h2 h3 h1.1.lt hp
theorem lenn_calls (base g : Nat) (bs : List Int) (w : World) (h : WtrN w base g bs) :
    Calls Try.prog 24 #[.pointer (some ⟨g, 0, none⟩)] w (fun e w' => e = .returned (.int .i64 bs.length) ∧ w' = w) := by
  obtain ⟨v, h1, h2, h3⟩ := h
  exact wlen_calls g v bs w h1
/-- Out: a row of its own, that reads as a string too. -/
def OutN (w : World) (base g : Nat) (bs : List Int) (e : Ending) (w' : World) : Prop :=
  ∃ A n cap, e = .returned (.slice A n cap) ∧ n = bs.length ∧ (convert 29 9 (.slice A n cap)).run Try.prog w' = .ok (.string (bstr bs)) w' ∧ OwnB w' w.heap.size 5 (.slice A n cap) bs ∧
    WtrN w' base g bs ∧ Below w.heap.size w w'
theorem outn_calls (base g : Nat) (bs : List Int) (w : World) (h : WtrN w base g bs) (hl : bs.length ≤ 140737488355328) :
    Calls Try.prog 29 #[.pointer (some ⟨g, 0, none⟩)] w (OutN w base g bs) := by
  have h0 := h
  obtain ⟨v, h1, h2, h3⟩ := h
  refine (wout_calls g v bs w h1 hl).mono ?_
  rintro e w' ⟨v', rfl, o, B⟩
  obtain ⟨A, n, cap, rfl, hn, hs⟩ := OwnB.str o
  exact ⟨A, n, cap, rfl, hn, hs, o, h0.fr (Fr.of_below (S := nothing) B) (fun _ _ h => h), B⟩
def TakeN (w : World) (g lo hi : Nat) (bs : List Int) (bad : Bool) (n : Int) (e : Ending) (w' : World) : Prop :=
  ∃ A k cap, e = .returned (.slice A k cap) ∧ k = (tk bs n).length ∧ (convert 29 9 (.slice A k cap)).run Try.prog w' = .ok (.string (bstr (tk bs n))) w' ∧ OwnB w' w.heap.size 5 (.slice A k cap) (tk bs n) ∧
    Rdr w' g lo hi (lf bs n) (bd bs bad n) ∧ Fr (only g) w w'
theorem taken_calls (g lo hi : Nat) (bs : List Int) (bad : Bool) (n : Int) (w : World) (h : Rdr w g lo hi bs bad) :
    Calls Try.prog 39 #[.pointer (some ⟨g, 0, none⟩), .int .i64 n] w (TakeN w g lo hi bs bad n) := by
  refine (take_calls g lo hi bs bad n w h).mono ?_
  rintro e w' ⟨v', rfl, o, r, f⟩
  obtain ⟨A, k, cap, rfl, hn, hs⟩ := OwnB.str o
  exact ⟨A, k, cap, rfl, hn, hs, o, r, f⟩
end Go.Proofs.Ytaifihoheieneaa.Octet
