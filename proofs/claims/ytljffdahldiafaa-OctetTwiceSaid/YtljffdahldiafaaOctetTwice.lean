/- The walk of flumelaw04.OctetTwice: true for every input. No conditions but the row's own. -/
import Derived.Test.YtljffdahldiafaaOctetBad
import Derived.Deep.RegionHeldLaw
namespace Go.Proofs.Ytljffdahldiafaa.OctetTwice
open Go.RowKit Go.Proofs.Ytljffdahldiafaa.Mem Go.Proofs.Ytljffdahldiafaa.Octet Go.Proofs.Ytljffdahldiafaa.OctetBad
set_option linter.unusedVariables false
set_option linter.unusedSimpArgs false
attribute [local go_sem] max2_mx min2_mn max_two min_two

theorem slb_of {w : World} {A : Option Addr} {xs : List Int} {cap : Nat} (h : ReadsI w .u8 A xs) (hc : xs.length ≤ cap) (hm : cap ≤ maxLen) (hn : A = none → cap = 0) :
    SlB w 0 w.heap.size (.slice A xs.length cap) xs := ⟨A, cap, rfl, hc, hm, hn, rdb_of h⟩
theorem slb_str {w : World} {lo hi : Nat} {A : Option Addr} {n cap : Nat} {xs : List Int} (h : SlB w lo hi (.slice A n cap) xs) :
    (convert 22 9 (.slice A n cap)).run Try.prog w = .ok (.string (bstr xs)) w := by
  obtain ⟨A', cap', e, h1, h2, h3, h4⟩ := h
  injection e with e1 e2 e3
  subst e1; subst e2; subst e3
  exact string_rd w _ _ A cap xs h4 (fun e => ⟨h3 e, List.eq_nil_of_length_eq_zero (by have := h3 e; omega)⟩)

theorem tk_app (a b : List Int) : tk (a ++ b) a.length = a := by
  unfold tk
  rw [if_neg (by simp; omega)]
  simp
theorem lf_app (a b : List Int) : lf (a ++ b) a.length = b := by
  unfold lf
  rw [if_neg (by simp; omega)]
  simp
theorem bd_app (a b : List Int) : bd (a ++ b) false a.length = false := by
  unfold bd
  rw [if_neg (by simp; omega)]
theorem tk_app' (a b : List Int) (n : Int) (h : n = a.length) : tk (a ++ b) n = a := by subst h; exact tk_app a b
theorem lf_app' (a b : List Int) (n : Int) (h : n = a.length) : lf (a ++ b) n = b := by subst h; exact lf_app a b
theorem bd_app' (a b : List Int) (n : Int) (h : n = a.length) : bd (a ++ b) false n = false := by subst h; exact bd_app a b
theorem isb_of {xs : List Int} (h : ∀ x ∈ xs, (Lit.int .u8 x).wf = true) : IsB xs := fun x hx => range_u8 x (h x hx)

/-- What the writer has in the end. -/
def whole (a b : List Int) (v : Int) : List Int :=
  a ++ ([v / 16777216 % 256, v / 65536 % 256, v / 256 % 256, v % 256] ++ ([v % 65536 / 256 % 256, v % 65536 % 256] ++ ([v % 256] ++ b)))

/-- What stands while the reader is asked. -/
structure Env (w : World) (a a2 : Option Addr) (cap cap2 : Nat) (l s : List Int) (wb wg : Nat) (ws : List Int) (g lo m : Nat) (wk : World) (bs : List Int) : Prop where
  x : SlB wk 0 w.heap.size (.slice a l.length cap) l
  y : SlB wk 0 w.heap.size (.slice a2 s.length cap2) s
  wr : WtrN wk wb wg ws
  rd : Rdr wk g lo m bs false
  bl : Below w.heap.size w wk
  hg : w.heap.size ≤ g
variable {w : World} {a a2 : Option Addr} {cap cap2 : Nat} {l s : List Int} {wb wg : Nat} {ws : List Int} {g lo m : Nat} {wk wk' : World} {bs bs' : List Int}
def StrA (a : Option Addr) (cap : Nat) (l : List Int) (wk : World) : Prop := (convert 22 9 (.slice a l.length cap)).run Try.prog wk = .ok (.string (bstr l)) wk
theorem Env.step (E : Env w a a2 cap cap2 l s wb wg ws g lo m wk bs) (f : Fr (only g) wk wk') (R : Rdr wk' g lo m bs' false) : Env w a a2 cap cap2 l s wb wg ws g lo m wk' bs' :=
  ⟨E.x.fr f (fun k _ h2 h3 => by have h3' : k = g := h3; have := E.hg; omega), E.y.fr f (fun k _ h2 h3 => by have h3' : k = g := h3; have := E.hg; omega), E.wr.read E.rd f, R,
    Bl.trans E.bl (Bl.of_fr f E.bl.size (fun k hk => by have e : k = g := hk; have := E.hg; omega)), E.hg⟩
theorem Env.drew (E : Env w a a2 cap cap2 l s wb wg ws g lo m wk bs) : Env w a a2 cap cap2 l s wb wg ws g lo m wk.drew bs :=
  ⟨E.x, E.y, E.wr, E.rd, E.bl.drew, E.hg⟩
theorem t_take (E : Env w a a2 cap cap2 l s wb wg ws g lo m wk bs) (xs ys : List Int) (n : Int) (hb : bs = xs ++ ys) (hn : n = xs.length) :
    Calls Try.prog 18 #[.pointer (some ⟨g, 0, none⟩), .int .i64 n] wk fun e w' => ∃ A k c, e = .returned (.slice A k c) ∧ (convert 22 9 (.slice A k c)).run Try.prog w' = .ok (.string (bstr xs)) w' ∧ Env w a a2 cap cap2 l s wb wg ws g lo m w' ys := by
  subst hb
  refine (taken_calls g lo m _ false n wk E.rd).mono ?_
  rintro e w' ⟨A, k, c, rfl, -, hs, -, R, f⟩
  rw [tk_app' xs ys n hn] at hs
  rw [lf_app' xs ys n hn, bd_app' xs ys n hn] at R
  exact ⟨A, k, c, rfl, hs, E.step f R⟩
theorem t_num {k : IntKind} {n : Nat} {e : Ending} (E : Env w a a2 cap cap2 l s wb wg ws g lo m wk bs) (xs ys : List Int) (hb : bs = xs ++ ys) (hn : n = xs.length) (h : Num1P wk g lo m bs false k n e wk') (x : Int) (hx : num xs = x) :
    e = .returned (.int k x) ∧ Env w a a2 cap cap2 l s wb wg ws g lo m wk' ys := by
  subst hb
  obtain ⟨rfl, R, f⟩ := h
  rw [tk_app' xs ys n (by omega), hx]
  rw [lf_app' xs ys n (by omega), bd_app' xs ys n (by omega)] at R
  exact ⟨rfl, E.step f R⟩
theorem num_four (v : Int) (h0 : 0 ≤ v) (h1 : v < 4294967296) : num [v / 16777216 % 256, v / 65536 % 256, v / 256 % 256, v % 256] = v := by
  show ((((((((0 * 256 + v / 16777216 % 256) % 4294967296) * 256 + v / 65536 % 256) % 4294967296) * 256 + v / 256 % 256) % 4294967296) * 256 + v % 256) % 4294967296) = v
  omega
theorem num_two (v : Int) : num [v % 65536 / 256 % 256, v % 65536 % 256] = v % 65536 := by
  show ((((0 * 256 + v % 65536 / 256 % 256) % 4294967296) * 256 + v % 65536 % 256) % 4294967296) = v % 65536
  omega
theorem num_one (v : Int) : num [v % 256] = v % 256 := by
  show ((0 * 256 + v % 256) % 4294967296) = v % 256
  omega
theorem isb_r {xs ys : List Int} (h : IsB (xs ++ ys)) : IsB ys := fun x hx => h x (List.mem_append.2 (.inr hx))
theorem isb_whole (a b : List Int) (v : Int) (ha : IsB a) (hb : IsB b) : IsB (whole a b v) := by
  intro x hx
  unfold whole at hx
  simp only [List.mem_append, List.mem_cons, List.not_mem_nil, or_false] at hx
  rcases hx with h | (h | h | h | h) | (h | h) | h | h
  · exact ha x h
  all_goals first | exact hb x h | (subst h; omega)

set_option maxHeartbeats 4000000 in
set_option maxRecDepth 100000 in
theorem walk (a : Option Addr) (cap : Nat) (l : List Int) (a2 : Option Addr) (cap2 : Nat) (s : List Int) (v : Int) (w : World) (hr : ReadsI w .u8 a l) (hc : l.length ≤ cap) (hm : cap ≤ maxLen) (hy : l.length * 1 ≤ 140737488351232)
    (hw : ∀ x ∈ l, (Lit.int .u8 x).wf = true) (hnil : a = none → cap = 0)
    (hr2 : ReadsI w .u8 a2 s) (hc2 : s.length ≤ cap2) (hm2 : cap2 ≤ maxLen) (hy2 : s.length * 1 ≤ 140737488351232) (hw2 : ∀ x ∈ s, (Lit.int .u8 x).wf = true) (hnil2 : a2 = none → cap2 = 0) (hwn : (Lit.int .u32 v).wf = true) :
    Calls Try.prog 7 #[.slice a l.length cap, .slice a2 s.length cap2, .int .u32 v] w fun e w' => e = .returned (.bool true) ∧ Below w.heap.size w w' := by
  have X := slb_of hr hc hm hnil
  have Y := slb_of hr2 hc2 hm2 hnil2
  have IX := isb_of hw
  have IY := isb_of hw2
  have hv : 0 ≤ v ∧ v < 4294967296 := by simp [Lit.wf, IntKind.min, IntKind.max, IntKind.bits, IntKind.signed] at hwn; omega
  clear hw hw2 hr hr2 hnil hnil2 hwn
  obtain ⟨hv0, hv1⟩ := hv
  by_cases hbig : 2000 < mx l.length s.length
  · go_enter Try.func7, Try.ntmps7
    go_wp2_with fail
    refine (first_calls w).mono ?_
    rintro e w0 ⟨rfl, B0⟩
    go_wp2
    go_ret
    exact ⟨rfl, B0⟩
  · have hl : l.length ≤ 2000 ∧ s.length ≤ 2000 := by unfold mx at hbig; split at hbig <;> omega
    obtain ⟨hl1, hl2⟩ := hl
    go_enter Try.func7, Try.ntmps7
    go_wp2_with fail
    refine (first_calls w).mono ?_
    rintro e w0 ⟨rfl, B0⟩
    replace X := SlB.bl X B0 (Nat.le_refl _)
    replace Y := SlB.bl Y B0 (Nat.le_refl _)
    have W0 := WtrN.new w0
    replace X := SlB.fr X (S := nothing) ((Fr.refl _ w0).alloc (.cells #[.slice none 0 0] 26)) (fun _ _ _ h => h)
    replace Y := SlB.fr Y (S := nothing) ((Fr.refl _ w0).alloc (.cells #[.slice none 0 0] 26)) (fun _ _ _ h => h)
    have B1 := B0.alloc B0.size (.cells #[.slice none 0 0] 26)
    have hs0 := B0.size
    clear B0
    go_wp2_with fail
    refine (putn_calls w0.heap.size w0.heap.size _ _ _ [] _ _ W0 X (by simp; omega)).mono ?_
    rintro e w1 ⟨rfl, W, B⟩
    replace X := SlB.bl X B hs0
    replace Y := SlB.bl Y B hs0
    replace B1 := Bl.trans B1 (Bl.low B hs0)
    clear B W0
    have W0 := W
    clear W
    go_wp2_with fail
    refine (u32n_calls w0.heap.size w0.heap.size _ v _ W0 (by simp; omega)).mono ?_
    rintro e w2 ⟨rfl, W, B⟩
    replace X := SlB.bl X B hs0
    replace Y := SlB.bl Y B hs0
    replace B1 := Bl.trans B1 (Bl.low B hs0)
    clear B W0
    have W0 := W
    clear W
    go_wp2_with fail
    refine (u16n_calls w0.heap.size w0.heap.size _ _ _ W0 (by simp; omega)).mono ?_
    rintro e w3 ⟨rfl, W, B⟩
    replace X := SlB.bl X B hs0
    replace Y := SlB.bl Y B hs0
    replace B1 := Bl.trans B1 (Bl.low B hs0)
    clear B W0
    have W0 := W
    clear W
    go_wp2_with fail
    refine (u8n_calls w0.heap.size w0.heap.size _ _ _ W0 (by simp; omega)).mono ?_
    rintro e w4 ⟨rfl, W, B⟩
    replace X := SlB.bl X B hs0
    replace Y := SlB.bl Y B hs0
    replace B1 := Bl.trans B1 (Bl.low B hs0)
    clear B W0
    have W0 := W
    clear W
    go_wp2_with fail
    refine (putn_calls w0.heap.size w0.heap.size _ _ _ _ _ _ W0 Y (by simp; omega)).mono ?_
    rintro e w5 ⟨rfl, W, B⟩
    replace X := SlB.bl X B hs0
    replace Y := SlB.bl Y B hs0
    replace B1 := Bl.trans B1 (Bl.low B hs0)
    clear B W0
    have W0 := W
    clear W
    replace W0 : WtrN w5 w0.heap.size w0.heap.size (whole l s v) := by
      unfold whole
      simpa [List.append_assoc, show IntKind.u16.wrap v = v % 65536 by simp [IntKind.wrap, IntKind.bits, IntKind.signed]] using W0
    have hwl : (whole l s v).length = l.length + s.length + 7 := by simp [whole]; omega
    have hgw : w.heap.size ≤ w5.heap.size := B1.size
    go_wp2_with fail
    refine (outn_calls _ _ _ w5 W0 (by omega)).mono ?_
    rintro e w6 ⟨A, n, c, rfl, -, -, o, W6, B6⟩
    replace X := SlB.bl X B6 (by omega)
    replace Y := SlB.bl Y B6 (by omega)
    replace B6 := Bl.trans B1 (Bl.low B6 hgw)
    go_wp2_with fail
    refine (new_calls _ _ _ _ w6 (SlB.of_own o) (by omega)).mono ?_
    rintro e w7 ⟨g, m, rfl, hm1, hm2, R7, B7⟩
    have hg7 : w.heap.size ≤ g := by have := B6.size; omega
    have E7 : Env w a a2 cap cap2 l s w0.heap.size w0.heap.size (whole l s v) g w6.heap.size m w7 (whole l s v) :=
      ⟨SlB.bl X B7 B6.size, SlB.bl Y B7 B6.size, W6.fr (S := nothing) (Fr.of_below B7) (fun _ _ h => h), R7, Bl.trans B6 (Bl.low B7 B6.size), hg7⟩
    clear X Y W0 B1 o W6 B6 R7 B7
    replace E7 := E7.drew
    have SA := slb_str E7.x
    have SB := slb_str E7.y
    have IW := Lib.hid (isb_whole l s v IX IY)
    have HL := Lib.hid (show ((whole l s v).length : Int) = l.length + s.length + 7 by rw [hwl]; omega)
    have H32 := Lib.hid (num_four v hv0 hv1)
    have H16 := Lib.hid (show num [v % 65536 / 256 % 256, v % 65536 % 256] = IntKind.u16.wrap v by rw [num_two]; simp [IntKind.wrap, IntKind.bits, IntKind.signed])
    have H8 := Lib.hid (show num [v % 256] = IntKind.u8.wrap v by rw [num_one]; simp [IntKind.wrap, IntKind.bits, IntKind.signed])
    have HS : IntKind.i64.wrap (IntKind.i64.wrap ((l.length : Int) + s.length) + 7) = (l.length : Int) + s.length + 7 := by simp [IntKind.wrap, IntKind.bits, IntKind.signed]; omega
    clear IX IY hwl
    go_wp2_with fail
    go_region_held_law (fun wq => (convert 22 9 (.slice a l.length cap)).run Try.prog wq = .ok (.string (bstr l)) wq ∧ (convert 22 9 (.slice a2 s.length cap2)).run Try.prog wq = .ok (.string (bstr s)) wq) (first | exact ⟨SA, SB⟩ | exact ⟨SA8, SB8⟩ | exact ⟨SA9, SB9⟩ | exact ⟨SA10, SB10⟩ | exact ⟨SA11, SB11⟩ | exact ⟨SA12, SB12⟩) (first
      | (go_at_call 17; refine (u32_calls g _ _ _ _ _ E8.rd (isb_r (xs := l) IW.out) (rlt E8.rd)).mono ?_; rintro e w9 h9; obtain ⟨rfl, E9⟩ := t_num E8 [v / 16777216 % 256, v / 65536 % 256, v / 256 % 256, v % 256] _ rfl rfl h9 _ H32.out; clear h9; have SA9 := slb_str E9.x; have SB9 := slb_str E9.y)
      | (go_at_call 16; refine (u16_calls g _ _ _ _ _ E9.rd (isb_r (isb_r (xs := l) IW.out)) (rlt E9.rd)).mono ?_; rintro e w10 h10; obtain ⟨rfl, E10⟩ := t_num E9 [v % 65536 / 256 % 256, v % 65536 % 256] _ rfl rfl h10 _ H16.out; clear h10; have SA10 := slb_str E10.x; have SB10 := slb_str E10.y)
      | (go_at_call 14; refine (u8_calls g _ _ _ _ _ E10.rd (isb_r (isb_r (isb_r (xs := l) IW.out))) (rlt E10.rd)).mono ?_; rintro e w11 h11; obtain ⟨rfl, E11⟩ := t_num E10 [v % 256] s rfl rfl h11 _ H8.out; clear h11; have SA11 := slb_str E11.x; have SB11 := slb_str E11.y)
      | (go_at_call 22; refine (end_calls g _ _ _ _ _ E12.rd).mono ?_; rintro e w' ⟨he, rfl⟩; rw [show endOf [] false = 0 from rfl] at he; subst he)
      | (go_at_call 10; refine (lenn_calls _ _ _ _ E12.wr).mono ?_; rintro e w' ⟨he, rfl⟩; rw [HL.out] at he; subst he)
      | (go_at_call 18; refine (t_take E11 s [] _ (by simp) rfl).mono ?_; rintro e w12 ⟨A2, k2, c2, rfl, S2, E12⟩; have SA12 := slb_str E12.x; have SB12 := slb_str E12.y)
      | (go_at_call 18; refine (t_take E7 l _ _ rfl rfl).mono ?_; rintro e w8 ⟨A1, k1, c1, rfl, S1, E8⟩; have SA8 := slb_str E8.x; have SB8 := slb_str E8.y))
    all_goals first
      | (go_wp2; go_ret; exact ⟨rfl, E12.bl⟩)
      | (rename_i hK hH; refine hK _ _ ?_; clear hK hH; first | (go_wp2; go_ret; exact ⟨rfl, E12.bl⟩) | (go_wp2; trace_state; sorry))
      | (trace_state; sorry)
end Go.Proofs.Ytljffdahldiafaa.OctetTwice
