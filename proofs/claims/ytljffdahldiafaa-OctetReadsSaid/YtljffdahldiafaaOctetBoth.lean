/- A writer and a row beside it, apart from each other and from what a set of blocks holds. Conditions: each names its own. -/
import Derived.Test.YtljffdahldiafaaOctetRef
import Derived.Test.YtljffdahldiafaaOctetBad
namespace Go.Proofs.Ytljffdahldiafaa.Octet
open Go.RowKit Go.Proofs.Ytljffdahldiafaa.Mem Go.Proofs.Ytljffdahldiafaa.OctetBad
set_option linter.unusedVariables false
set_option linter.unusedSimpArgs false

theorem slb_str {w : World} {lo hi : Nat} {A : Option Addr} {n cap : Nat} {xs : List Int} (h : SlB w lo hi (.slice A n cap) xs) :
    (convert 22 9 (.slice A n cap)).run Try.prog w = .ok (.string (bstr xs)) w := by
  obtain ⟨A', cap', e, h1, h2, h3, h4⟩ := h
  injection e with e1 e2 e3
  subst e1; subst e2; subst e3
  exact string_rd w _ _ A cap xs h4 (fun e => ⟨h3 e, List.eq_nil_of_length_eq_zero (by have := h3 e; omega)⟩)
/-- A cell of a row of its own: it reads, it is written. -/
theorem own_at {w : World} {m : Nat} {A : Option Addr} {n cap : Nat} {bs : List Int} (h : OwnB w m 5 (.slice A n cap) bs) (k : Nat) (hk : k < n) :
    ∃ ad, A = some ad ∧ (∃ x, w.cell? (ad.add k) = some (.int .u8 x)) ∧ w.frozen? (ad.add k) = false ∧ m ≤ (ad.add k).block ∧ (∀ g, (ad.add k).block = g → (Value.slice A n cap).ownBlock = some g) ∧
      ∀ x, ∃ bs', OwnB (w.setCell (ad.add k) (.int .u8 x)) m 5 (.slice A n cap) bs' := by
  have h0 := h
  rcases h.2 with ⟨e, h1⟩ | ⟨g, cap', cur, e, hb, hg, hn, hm, hs, ht⟩
  · injection e with e1 e2 e3; omega
  · injection e with e1 e2 e3
    subst e1; subst e2; subst e3
    have ea : (⟨g, 0, none⟩ : Addr).add k = ⟨g, k, none⟩ := by
      by_cases h : k = 0
      · subst h; rfl
      · simp [Addr.add, h]
    have h' : w.ownsRow m 5 1 (.slice (some ⟨g, 0, none⟩) bs.length cap) bs.length (byts bs) := h
    refine ⟨_, rfl, ⟨bs[k]'(by omega), ?_⟩, ?_, ?_, ?_, fun x => ⟨bs.set k x, ?_⟩⟩
    · rw [ea, h'.cellAt k (by omega)]; simp [byts, hk]
    · rw [ea]; exact h'.frozenAt k
    · rw [ea]; exact hb
    · rw [ea]; rintro g' rfl; rfl
    · rw [ea]
      have s := (h'.stored k (.int .u8 x)).1
      unfold OwnB
      rw [List.length_set]
      simpa [byts, List.map_set] using s
/-- A writer at g and a row xv of its own, in blocks from base on; neither lies in F. -/
def Two (F : Nat → Prop) (w : World) (base g : Nat) (bs : List Int) (xv : Value) (xs : List Int) : Prop :=
  (∀ k, F k → k < w.heap.size) ∧ ∃ v, Wtr w g v bs ∧ OwnB w 0 5 xv xs ∧ base ≤ g ∧ (∀ k, v.ownBlock = some k → base ≤ k ∧ xv.ownBlock ≠ some k ∧ ¬ F k) ∧ (∀ k, xv.ownBlock = some k → base ≤ k ∧ ¬ F k) ∧ ¬ F g
/-- What a step on them may change. -/
abbrev Own2 (F : Nat → Prop) (base : Nat) : Nat → Prop := fun k => base ≤ k ∧ ¬ F k
variable {F : Nat → Prop} {w w' : World} {base g : Nat} {bs ys xs zs : List Int} {xv xv' v : Value} {e : Ending}
theorem Two.start (w : World) : Two nothing (w.alloc (.cells #[.slice none 0 0] 26)) w.heap.size w.heap.size [] (.slice none 0 0) [] :=
  ⟨fun _ h => h.elim, .slice none 0 0, ⟨Blk.new w _ _, OwnB.nil _ _ _⟩, OwnB.nil _ _ _, Nat.le_refl _, (fun _ h => by cases h), (fun _ h => by cases h), fun h => h⟩
theorem Two.size (h : Two F w base g bs xv xs) : base ≤ w.heap.size := by
  obtain ⟨_, v, h1, _, h3, _⟩ := h
  have := h1.1.lt
  omega
theorem Two.own (h : Two F w base g bs xv xs) : OwnB w base 5 xv xs := by
  obtain ⟨_, v, h1, h2, h3, _, h5, _⟩ := h
  exact OwnB.rise h2 (fun k hk => (h5 k hk).1)
theorem Two.shape (h : Two F w base g bs xv xs) : ∃ A cap, xv = .slice A xs.length cap := by
  obtain ⟨A, cap, e, _⟩ := OwnB.slice h.own; exact ⟨A, cap, e⟩
theorem Two.wtr (h : Two F w base g bs xv xs) : WtrN w base g bs := by
  obtain ⟨_, v, h1, h2, h3, h4, _⟩ := h
  exact ⟨v, h1, h3, fun k hk => (h4 k hk).1⟩
theorem Two.fr {S : Nat → Prop} (h : Two F w base g bs xv xs) (f : Fr S w w') (hS : ∀ k, k < w.heap.size → S k → F k) : Two F w' base g bs xv xs := by
  obtain ⟨h0, v, h1, h2, h3, h4, h5, h6⟩ := h
  refine ⟨fun k hk => Nat.lt_of_lt_of_le (h0 k hk) f.size, v, h1.fr f (fun hs => h6 (hS g h1.1.lt hs)) (fun k hk hs => (h4 k hk).2.2 (hS k (OwnB.lt h1.2 k hk) hs)), h2.fr f (fun k hk hs => (h5 k hk).2 (hS k (OwnB.lt h2 k hk) hs)), h3, h4, h5, h6⟩
theorem Two.bl {b : Nat} (h : Two F w base g bs xv xs) (B : Below b w w') (hb : w.heap.size ≤ b) : Two F w' base g bs xv xs :=
  h.fr (Bl.fr B) (fun k hk hs => absurd hk (by omega))
/-- A new set of blocks, of which nothing was there. -/
theorem Two.held {F' : Nat → Prop} (h : Two F w base g bs xv xs) (f : Below w.heap.size w w') (h1 : ∀ k, F' k → F k ∨ w.heap.size ≤ k) (h2 : ∀ k, F' k → k < w'.heap.size) : Two F' w' base g bs xv xs := by
  obtain ⟨a0, v, a1, a2, a3, a4, a5, a6⟩ := h
  have f' : Fr nothing w w' := Fr.of_below f
  refine ⟨h2, v, a1.fr f' (fun h => h) (fun _ _ h => h), a2.fr f' (fun _ _ h => h), a3, fun k hk => ⟨(a4 k hk).1, (a4 k hk).2.1, fun hF => ?_⟩, fun k hk => ⟨(a5 k hk).1, fun hF => ?_⟩, fun hF => ?_⟩
  · rcases h1 k hF with h | h
    · exact (a4 k hk).2.2 h
    · have := OwnB.lt a1.2 k hk; omega
  · rcases h1 k hF with h | h
    · exact (a5 k hk).2 h
    · have := OwnB.lt a2 k hk; omega
  · rcases h1 g hF with h | h
    · exact a6 h
    · have := a1.1.lt; omega
theorem Two.free (h : Two F w base g bs xv xs) : Two nothing w base g bs xv xs := by
  obtain ⟨_, v, a1, a2, a3, a4, a5, a6⟩ := h
  exact ⟨fun _ h => h.elim, v, a1, a2, a3, fun k hk => ⟨(a4 k hk).1, (a4 k hk).2.1, fun h => h⟩, fun k hk => ⟨(a5 k hk).1, fun h => h⟩, fun h => h⟩
theorem Two.str (h : Two F w base g bs xv xs) : (convert 22 9 xv).run Try.prog w = .ok (.string (bstr xs)) w := by
  have o := h.own
  obtain ⟨A, cap, rfl⟩ := h.shape
  exact slb_str (SlB.of_own o)
theorem Two.read {gr lo hi : Nat} {bs' : List Int} {bad : Bool} (h : Two nothing w base g bs xv xs) (r : Rdr w gr lo hi bs' bad) (f : Fr (only gr) w w') : Two nothing w' base g bs xv xs := by
  obtain ⟨a0, v, a1, a2, a3, a4, a5, a6⟩ := h
  obtain ⟨v', hb, _⟩ := r
  exact ⟨fun _ h => h.elim, v, a1.fr f (Blk.ne a1.1 hb (by decide)) (fun k hk e => OwnB.ne a1.2 hb (by decide) (by rw [hk, show k = gr from e])), a2.fr f (fun k hk e => OwnB.ne a2 hb (by decide) (by rw [hk, show k = gr from e])), a3, a4, a5, a6⟩
theorem Two.drew (h : Two F w base g bs xv xs) : Two F w.drew base g bs xv xs := h
def PutT (F : Nat → Prop) (w : World) (base g : Nat) (bs ys : List Int) (xv : Value) (xs : List Int) (e : Ending) (w' : World) : Prop := e = .returned (.tuple #[]) ∧ Two F w' base g (bs ++ ys) xv xs ∧ Fr (Own2 F base) w w'
theorem put_t (h0 : ∀ k, F k → k < w.heap.size) (h1 : Wtr w g v bs) (h2 : OwnB w 0 5 xv xs) (h3 : base ≤ g) (h4 : ∀ k, v.ownBlock = some k → base ≤ k ∧ xv.ownBlock ≠ some k ∧ ¬ F k) (h5 : ∀ k, xv.ownBlock = some k → base ≤ k ∧ ¬ F k) (h6 : ¬ F g)
    (hp : PutP w g v bs ys e w') : PutT F w base g bs ys xv xs e w' := by
  obtain ⟨rfl, v', a1, a2, a3⟩ := hp
  have hgx : xv.ownBlock ≠ some g := h2.ne h1.1 (by decide)
  have hlt := h1.1.lt
  refine ⟨rfl, ⟨fun k hk => Nat.lt_of_lt_of_le (h0 k hk) a3.size, v', a1, h2.fr a3 (fun k hk hS => ?_), h3, fun k hk => ?_, h5, h6⟩, a3.mono (fun k hk hS => ?_)⟩
  · rcases hS with rfl | hS
    · exact hgx hk
    · exact (h4 k hS).2.1 hk
  · rcases a2 with e | ⟨b, e, l1, l2⟩
    · exact h4 k (e ▸ hk)
    · rw [e] at hk; injection hk with hk
      subst hk
      exact ⟨by omega, fun hx => by have := OwnB.lt h2 _ hx; omega, fun hF => by have := h0 _ hF; omega⟩
  · rcases hS with rfl | hS
    · exact ⟨h3, h6⟩
    · exact ⟨(h4 k hS).1, (h4 k hS).2.2⟩
theorem putt_calls (lo hi : Nat) (x : Value) (h : Two F w base g bs xv xs) (hx : SlB w lo hi x ys) (hl : bs.length + ys.length ≤ 140737488355328) :
    Calls Try.prog 9 #[.pointer (some ⟨g, 0, none⟩), x] w (PutT F w base g bs ys xv xs) := by
  obtain ⟨h0, v, h1, h2, h3, h4, h5, h6⟩ := h
  exact (put_calls g lo hi v x bs ys w h1 hx hl).mono fun e w' hp => put_t h0 h1 h2 h3 h4 h5 h6 hp
theorem u8t_calls (x : Int) (h : Two F w base g bs xv xs) (hl : bs.length + 1 ≤ 140737488355328) :
    Calls Try.prog 23 #[.pointer (some ⟨g, 0, none⟩), .int .u8 x] w (PutT F w base g bs [x] xv xs) := by
  obtain ⟨h0, v, h1, h2, h3, h4, h5, h6⟩ := h
  exact (wu8_calls g v bs x w h1 hl).mono fun e w' hp => put_t h0 h1 h2 h3 h4 h5 h6 hp
theorem u16t_calls (x : Int) (h : Two F w base g bs xv xs) (hl : bs.length + 2 ≤ 140737488355328) :
    Calls Try.prog 25 #[.pointer (some ⟨g, 0, none⟩), .int .u16 x] w (PutT F w base g bs [x / 256 % 256, x % 256] xv xs) := by
  obtain ⟨h0, v, h1, h2, h3, h4, h5, h6⟩ := h
  exact (wu16_calls g v bs x w h1 hl).mono fun e w' hp => put_t h0 h1 h2 h3 h4 h5 h6 hp
theorem u32t_calls (x : Int) (h : Two F w base g bs xv xs) (hl : bs.length + 4 ≤ 140737488355328) :
    Calls Try.prog 26 #[.pointer (some ⟨g, 0, none⟩), .int .u32 x] w (PutT F w base g bs [x / 16777216 % 256, x / 65536 % 256, x / 256 % 256, x % 256] xv xs) := by
  obtain ⟨h0, v, h1, h2, h3, h4, h5, h6⟩ := h
  exact (wu32_calls g v bs x w h1 hl).mono fun e w' hp => put_t h0 h1 h2 h3 h4 h5 h6 hp
theorem Two.app (h : Two F w base g bs xv xs) (a : AppP w xv zs xv' w') : Two F w' base g bs xv' zs ∧ Fr (Own2 F base) w w' := by
  obtain ⟨h0, v, h1, h2, h3, h4, h5, h6⟩ := h
  obtain ⟨a1, a2, a3⟩ := a
  have hgx : xv.ownBlock ≠ some g := h2.ne h1.1 (by decide)
  refine ⟨⟨fun k hk => Nat.lt_of_lt_of_le (h0 k hk) a3.size, v, h1.fr a3 hgx (fun k hk => (h4 k hk).2.1), a1, h3, fun k hk => ⟨(h4 k hk).1, fun hx => ?_, (h4 k hk).2.2⟩, fun k hk => ?_, h6⟩, a3.mono (fun k hk hS => h5 k hS)⟩
  · rcases a2 with e | ⟨b, e, l1, l2⟩
    · exact (h4 k hk).2.1 (e ▸ hx)
    · rw [e] at hx; injection hx with hx; have := OwnB.lt h1.2 k hk; omega
  · rcases a2 with e | ⟨b, e, l1, l2⟩
    · exact h5 k (e ▸ hk)
    · rw [e] at hk; injection hk with hk
      subst hk
      have := h1.1.lt
      exact ⟨by omega, fun hF => by have := h0 _ hF; omega⟩
set_option maxHeartbeats 1000000 in
theorem padt_calls (n : Int) (h : Two F w base g bs xv xs) (hl : bs.length + 1000 ≤ 140737488355328) (hn : n ≤ 1000) :
    Calls Try.prog 11 #[.pointer (some ⟨g, 0, none⟩), .int .i64 n] w (PutT F w base g bs (List.replicate (padTo bs.length n) 0) xv xs) := by
  rcases (show n ≤ 0 ∨ 0 < n by omega) with hn0 | hn0
  · have e0 : padTo bs.length n = 0 := if_pos hn0
    have hn' : ¬ 0 < n := by omega
    rw [e0]
    have H := Lib.hid h
    clear h
    go_enter Try.func11, Try.ntmps11
    go_wp2
    first | go_end0 | ((try simp only [Exit.inBlock, Exit.then]); refine bodyPost_ret (results_none rfl _ _ _) rfl ?_)
    exact ⟨rfl, by simpa using H.out, Fr.refl _ _⟩
  · obtain ⟨q, rfl⟩ : ∃ q : Nat, n = q := ⟨n.toNat, by omega⟩
    have e0 : padTo bs.length q = (q - bs.length % q) % q := by unfold padTo; rw [if_neg (by omega)]; simp
    rw [e0]
    obtain ⟨h0, v, h1, h2, h3, h4, h5, h6⟩ := h
    exact (wpad_calls g v bs q w h1 (by omega) (by omega)).mono fun e w' hp => put_t h0 h1 h2 h3 h4 h5 h6 hp
end Go.Proofs.Ytljffdahldiafaa.Octet
