/- The walk of flumelaw04.OctetReads: true for all bytes and every script. No conditions but the row's own. -/
import Derived.Test.YtljffdahldiafaaOctetBoth
import Derived.Test.YtljffdahldiafaaOctetArgs
import Derived.Test.YtljffdahldiafaaOctetTape
import Derived.Deep.RegionHeldLaw
namespace Go.Proofs.Ytljffdahldiafaa.OctetReads
open Go.RowKit Go.Proofs.Ytljffdahldiafaa.Mem Go.Proofs.Ytljffdahldiafaa.Octet Go.Proofs.Ytljffdahldiafaa.OctetBad
set_option linter.unusedVariables false
set_option linter.unusedSimpArgs false
attribute [local go_sem] max2_mx min2_mn max_two min_two

/-- A reader at g and a tape at x, apart, in blocks from base on, below top. -/
def Pair (w : World) (base top g x : Nat) (bs : List Int) (bad : Bool) (ts : List Int) (tb : Bool) : Prop :=
  ∃ lo hi lx hx, Rdr w g lo hi bs bad ∧ Tap w x lx hx ts tb ∧ base ≤ lo ∧ hi ≤ g ∧ g < lx ∧ hx ≤ x ∧ g < x ∧ base ≤ g ∧ x < top ∧ top ≤ w.heap.size
variable {w w' : World} {base top g x : Nat} {bs ts : List Int} {bad tb : Bool}
theorem Pair.fr {S : Nat → Prop} (h : Pair w base top g x bs bad ts tb) (f : Fr S w w') (hS : ∀ k, S k → k < base ∨ top ≤ k) : Pair w' base top g x bs bad ts tb := by
  obtain ⟨lo, hi, lx, hx, h1, h2, h3, h4, h5, h6, h7, h8, h9, h10⟩ := h
  exact ⟨lo, hi, lx, hx, h1.fr f (fun hs => by have := hS g hs; omega) (fun k a b hs => by have := hS k hs; omega), h2.fr f (fun hs => by have := hS x hs; omega) (fun k a b hs => by have := hS k hs; omega), h3, h4, h5, h6, h7, h8, h9, Nat.le_trans h10 f.size⟩
theorem Pair.bl {b : Nat} (h : Pair w base top g x bs bad ts tb) (B : Below b w w') (hb : top ≤ b) : Pair w' base top g x bs bad ts tb :=
  h.fr (Bl.fr B) (fun k hs => .inr (Nat.le_trans hb hs))
theorem Pair.alloc (h : Pair w base top g x bs bad ts tb) (o : Obj) : Pair (w.alloc o) base top g x bs bad ts tb :=
  h.fr (S := nothing) ((Fr.refl _ w).alloc o) (fun _ h => h.elim)
theorem Pair.drew (h : Pair w base top g x bs bad ts tb) : Pair w.drew base top g x bs bad ts tb := h
theorem Pair.rd {bs' : List Int} {bad' : Bool} {lo hi lx hx : Nat} (h1 : Rdr w' g lo hi bs' bad') (h2 : Tap w x lx hx ts tb) (h3 : base ≤ lo) (h4 : hi ≤ g) (h5 : g < lx) (h6 : hx ≤ x) (h7 : g < x) (h8 : base ≤ g) (h9 : x < top) (h10 : top ≤ w.heap.size) (f : Fr (only g) w w') : Pair w' base top g x bs' bad' ts tb :=
  ⟨lo, hi, lx, hx, h1, h2.fr f (fun h => by have e : x = g := h; omega) (fun k a b h => by have e : k = g := h; omega), h3, h4, h5, h6, h7, h8, h9, Nat.le_trans h10 f.size⟩
theorem Pair.tp {ts' : List Int} {tb' : Bool} {lo hi lx hx : Nat} (h1 : Rdr w g lo hi bs bad) (h2 : Tap w' x lx hx ts' tb') (h3 : base ≤ lo) (h4 : hi ≤ g) (h5 : g < lx) (h6 : hx ≤ x) (h7 : g < x) (h8 : base ≤ g) (h9 : x < top) (h10 : top ≤ w.heap.size) (f : Fr (only x) w w') : Pair w' base top g x bs bad ts' tb' :=
  ⟨lo, hi, lx, hx, h1.fr f (fun h => by have e : g = x := h; omega) (fun k a b h => by have e : k = x := h; omega), h2, h3, h4, h5, h6, h7, h8, h9, Nat.le_trans h10 f.size⟩
theorem Pair.lt (h : Pair w base top g x bs bad ts tb) : base ≤ g ∧ base ≤ x ∧ g < top ∧ x < top ∧ top ≤ w.heap.size := by
  obtain ⟨lo, hi, lx, hx, h1, h2, h3, h4, h5, h6, h7, h8, h9, h10⟩ := h; omega
def PNum (w : World) (base top g x : Nat) (bs : List Int) (bad : Bool) (ts : List Int) (tb : Bool) (k : IntKind) (n : Int) (e : Ending) (w' : World) : Prop :=
  e = .returned (.int k (num (tk bs n))) ∧ Pair w' base top g x (lf bs n) (bd bs bad n) ts tb ∧ Fr (only g) w w'
theorem pu8_calls (h : Pair w base top g x bs bad ts tb) (hb : IsB bs) : Calls Try.prog 14 #[.pointer (some ⟨g, 0, none⟩)] w (PNum w base top g x bs bad ts tb .u8 1) := by
  obtain ⟨lo, hi, lx, hx, h1, h2, h3, h4, h5, h6, h7, h8, h9, h10⟩ := h
  exact (u8_calls g lo hi bs bad w h1 hb (rlt h1)).mono fun e w' hp => ⟨hp.1, Pair.rd hp.2.1 h2 h3 h4 h5 h6 h7 h8 h9 h10 hp.2.2, hp.2.2⟩
theorem pu16_calls (h : Pair w base top g x bs bad ts tb) (hb : IsB bs) : Calls Try.prog 16 #[.pointer (some ⟨g, 0, none⟩)] w (PNum w base top g x bs bad ts tb .u16 2) := by
  obtain ⟨lo, hi, lx, hx, h1, h2, h3, h4, h5, h6, h7, h8, h9, h10⟩ := h
  exact (u16_calls g lo hi bs bad w h1 hb (rlt h1)).mono fun e w' hp => ⟨hp.1, Pair.rd hp.2.1 h2 h3 h4 h5 h6 h7 h8 h9 h10 hp.2.2, hp.2.2⟩
theorem pu32_calls (h : Pair w base top g x bs bad ts tb) (hb : IsB bs) : Calls Try.prog 17 #[.pointer (some ⟨g, 0, none⟩)] w (PNum w base top g x bs bad ts tb .u32 4) := by
  obtain ⟨lo, hi, lx, hx, h1, h2, h3, h4, h5, h6, h7, h8, h9, h10⟩ := h
  exact (u32_calls g lo hi bs bad w h1 hb (rlt h1)).mono fun e w' hp => ⟨hp.1, Pair.rd hp.2.1 h2 h3 h4 h5 h6 h7 h8 h9 h10 hp.2.2, hp.2.2⟩
def PTNum (w : World) (base top g x : Nat) (bs : List Int) (bad : Bool) (ts : List Int) (tb : Bool) (n : Int) (e : Ending) (w' : World) : Prop :=
  e = .returned (.int .u64 (num (tk ts n))) ∧ Pair w' base top g x bs bad (lf ts n) (bd ts tb n) ∧ Fr (only x) w w'
theorem ptnum_calls (n : Int) (h : Pair w base top g x bs bad ts tb) (hb : IsB ts) (h0 : 0 ≤ n) (hn : n ≤ 4) : Calls Try.prog 15 #[.pointer (some ⟨x, 0, none⟩), .int .i64 n] w (PTNum w base top g x bs bad ts tb n) := by
  obtain ⟨lo, hi, lx, hx, h1, h2, h3, h4, h5, h6, h7, h8, h9, h10⟩ := h
  obtain ⟨n, rfl⟩ : ∃ q : Nat, n = q := ⟨n.toNat, by omega⟩
  exact (tnum_calls x lx hx ts tb n w h2 (by omega) hb (by omega)).mono fun e w' hp => ⟨hp.1, Pair.tp h1 hp.2.1 h3 h4 h5 h6 h7 h8 h9 h10 hp.2.2, hp.2.2⟩
def PTake (w : World) (base top g x : Nat) (bs : List Int) (bad : Bool) (ts : List Int) (tb : Bool) (n : Int) (e : Ending) (w' : World) : Prop :=
  ∃ A k cap, e = .returned (.slice A k cap) ∧ k = (tk bs n).length ∧ OwnB w' w.heap.size 5 (.slice A k cap) (tk bs n) ∧ Pair w' base top g x (lf bs n) (bd bs bad n) ts tb ∧ Fr (only g) w w'
theorem ptake_calls (n : Int) (h : Pair w base top g x bs bad ts tb) : Calls Try.prog 18 #[.pointer (some ⟨g, 0, none⟩), .int .i64 n] w (PTake w base top g x bs bad ts tb n) := by
  obtain ⟨lo, hi, lx, hx, h1, h2, h3, h4, h5, h6, h7, h8, h9, h10⟩ := h
  refine (taken_calls g lo hi bs bad n w h1).mono ?_
  rintro e w' ⟨A, k, cap, rfl, hk, -, o, r, f⟩
  exact ⟨A, k, cap, rfl, hk, o, Pair.rd r h2 h3 h4 h5 h6 h7 h8 h9 h10 f, f⟩
def PTTake (w : World) (base top g x : Nat) (bs : List Int) (bad : Bool) (ts : List Int) (tb : Bool) (n : Int) (e : Ending) (w' : World) : Prop :=
  ∃ A k c, e = .returned (.slice A k c) ∧ (convert 22 9 (.slice A k c)).run Try.prog w' = .ok (.string (bstr (tk ts n))) w' ∧ Pair w' base top g x bs bad (lf ts n) (bd ts tb n) ∧ Fr (only x) w w'
theorem pttake_calls (n : Int) (h : Pair w base top g x bs bad ts tb) (n0 : -9223372036854775808 ≤ n) (n1 : n < 9223372036854775808) : Calls Try.prog 19 #[.pointer (some ⟨x, 0, none⟩), .int .i64 n] w (PTTake w base top g x bs bad ts tb n) := by
  obtain ⟨lo, hi, lx, hx, h1, h2, h3, h4, h5, h6, h7, h8, h9, h10⟩ := h
  refine (ttake_calls x lx hx ts tb n w h2 (by omega) n0 n1).mono ?_
  rintro e w' ⟨A, k, c, rfl, hk, sl, t, f⟩
  exact ⟨A, k, c, rfl, slb_str sl, Pair.tp h1 t h3 h4 h5 h6 h7 h8 h9 h10 f, f⟩

set_option maxHeartbeats 2000000 in
set_option maxRecDepth 100000 in
theorem walk (a : Option Addr) (cap : Nat) (l : List Int) (a2 : Option Addr) (cap2 len2 : Nat) (w : World) (hr : ReadsI w .u8 a l) (hc : l.length ≤ cap) (hm : cap ≤ maxLen) (hy : l.length * 1 ≤ 140737488351232)
    (hw : ∀ x ∈ l, (Lit.int .u8 x).wf = true) (hnil : a = none → cap = 0) (see : Sees Try.prog w 33 [.slice a2 len2 cap2]) :
    Calls Try.prog 4 #[.slice a l.length cap, .slice a2 len2 cap2] w fun e w' => e = .returned (.bool true) ∧ Below w.heap.size w w' := by
  obtain ⟨os, rfl, hro, hcap2, hm2⟩ := reads_ops see
  obtain ⟨K, hK⟩ : ∃ K : Nat, mn l.length 3000 = K := ⟨min l.length 3000, by unfold mn; split <;> omega⟩
  have hK1 : K ≤ l.length ∧ K ≤ 3000 := by unfold mn at hK; split at hK <;> omega
  have X0 := slb_cut hr hc hm hnil K hK1.1
  have hKc : K ≤ cap := by omega
  have ib : IsB (l.take K) := fun x hx => range_u8 x (hw x (List.mem_of_mem_take hx))
  have hlen : (l.take K).length = K := by rw [List.length_take]; omega
  clear see hr hw hnil hy
  obtain ⟨i0, hi0, hz0, hz1, hz2⟩ := info_parts info_b
  go_enter Try.func4, Try.ntmps4
  go_wp2_with fail
  refine (first_calls w).mono ?_
  rintro e w0 ⟨rfl, B0⟩
  have hs0 := B0.size
  replace X0 := SlB.bl X0 B0 (Nat.le_refl _)
  have own0 : (w0.alloc (.cells #[] 5)).ownsRow w0.heap.size 5 1 (.slice (some ⟨w0.heap.size, 0, none⟩) 0 0) ([] : List Int).length (byts []) :=
    ⟨rfl, .inr ⟨w0.heap.size, 0, #[], rfl, Nat.le_refl _, heap_alloc_new w0 _, Nat.le_refl _, Nat.zero_le _, rfl, rfl⟩⟩
  obtain ⟨A3, c3, e3, h31, h32, h33, rd2⟩ := SlB.fr X0 (S := nothing) ((Fr.refl _ w0).alloc (.cells #[] 5)) (fun _ _ _ h => h)
  injection e3 with e3 el4 e4
  subst e3; subst e4
  clear h31 h32 h33 el4
  have hbig : ([] : List Int).length + (l.take K).length ≤ 140737488355328 := by simp; omega
  go_wp2_with (at_builtin; refine wpList_append_b _ rfl (.tmp 16) (.tmp 21) _ rfl w0.heap.size 5 i0 Try.underlying22 hi0 hz0 hz1 hz2 _ [] rfl own0 _ _ _ _ _ (l.take K) rfl hlen.symm rd2 hbig (by simp) ?_; intro v' w' hown hg hat; clear own0 rd2; have oB : OwnB w' w0.heap.size 5 v' (l.take K) := hown; have BB : Below w0.heap.size w0 w' := ((Below.refl _ _).alloc (Nat.le_refl _) _).grown hg (by simp) (fun k hk => by have hk' : some w0.heap.size = some k := hk; injection hk' with hk'; omega); clear hown hg hat)
  generalize hxs : l.take K = xs at oB ib hlen
  obtain rfl : K = xs.length := hlen.symm
  have hx3 : xs.length ≤ 3000 := hK1.2
  clear X0 hxs hK hK1 hKc hbig hlen
  obtain ⟨Ab, cb, rfl, -, -⟩ := OwnB.slice oB
  have B1 := Bl.trans B0 (Bl.low BB hs0)
  have hs1 := BB.size
  have SB := SlB.of_own oB
  clear B0 BB
  go_wp2_with fail
  refine (new_calls _ _ _ xs w' SB (by omega)).mono ?_
  rintro e w1 ⟨g, m, rfl, hm1, hm3, R1, Bn⟩
  have oB1 := OwnB.fr oB (Fr.of_below (S := nothing) Bn) (fun _ _ h => h)
  have hob := fun k hk => OwnB.lt oB k hk
  have B2 := Bl.trans B1 (Bl.low Bn B1.size)
  have hs2 := Bn.size
  have hg1 := rlt R1
  clear SB B1 Bn oB
  have own0 : (w1.alloc (.cells #[] 5)).ownsRow w1.heap.size 5 1 (.slice (some ⟨w1.heap.size, 0, none⟩) 0 0) ([] : List Int).length (byts []) :=
    ⟨rfl, .inr ⟨w1.heap.size, 0, #[], rfl, Nat.le_refl _, heap_alloc_new w1 _, Nat.le_refl _, Nat.zero_le _, rfl, rfl⟩⟩
  obtain ⟨A3, c3, e3, h31, h32, h33, rd2⟩ := SlB.fr (SlB.of_own oB1) (S := nothing) ((Fr.refl _ w1).alloc (.cells #[] 5)) (fun _ _ _ h => h)
  injection e3 with e3 el4 e4
  subst e3; subst e4
  clear h31 h32 h33 el4
  have hbig : ([] : List Int).length + xs.length ≤ 140737488355328 := by simp; omega
  go_wp2_with (at_builtin; refine wpList_append_b _ rfl (.tmp 25) (.tmp 26) _ rfl w1.heap.size 5 i0 Try.underlying22 hi0 hz0 hz1 hz2 _ [] rfl own0 _ _ _ _ _ xs rfl rfl rd2 hbig (by simp) ?_; intro v' w2 hown hg hat; clear own0 rd2; have oT : OwnB w2 w1.heap.size 5 v' xs := hown; obtain ⟨Aq, cq, ev, -, -⟩ := OwnB.slice oT; subst ev; have BB : Below w1.heap.size w1 w2 := ((Below.refl _ _).alloc (Nat.le_refl _) _).grown hg (by simp) (fun k hk => by have hk' : some w1.heap.size = some k := hk; injection hk' with hk'; omega); clear hown hg hat)
  obtain ⟨A4, c4, e4, k1, k2, k3, k4⟩ := SlB.of_own oT
  injection e4 with e4 el4 e5
  subst e4; subst e5
  have P : Pair (w2.alloc (.cells #[.slice Aq xs.length cq, .int .i64 0, .bool false] 38)) w'.heap.size (w2.heap.size + 1) g w2.heap.size xs false xs false := by
    have hB2 := BB.size
    have R3 := (R1.fr (Fr.of_below (S := nothing) BB) (fun h => h) (fun _ _ _ h => h)).fr (S := nothing) ((Fr.refl _ w2).alloc (.cells #[.slice Aq xs.length cq, .int .i64 0, .bool false] 38)) (fun h => h) (fun _ _ _ h => h)
    refine ⟨w'.heap.size, m, w1.heap.size, w2.heap.size, R3, ⟨Aq, cq, xs, 0, Blk.new w2 _ _, Nat.zero_le _, rfl, (fun h => by cases h), k1, k2, k3, k4.fr (S := nothing) ((Fr.refl _ w2).alloc _) (fun _ _ _ h => h)⟩, Nat.le_refl _, hm3, hg1, Nat.le_refl _, by omega, by omega, by omega, by simp⟩
  have oB3 := OwnB.fr (OwnB.fr oB1 (Fr.of_below (S := nothing) BB) (fun _ _ h => h)) (S := nothing) ((Fr.refl _ w2).alloc (.cells #[.slice Aq xs.length cq, .int .i64 0, .bool false] 38)) (fun _ _ h => h)
  have B3 := (Bl.trans B2 (Bl.low BB B2.size)).alloc (Nat.le_trans B2.size BB.size) (.cells #[.slice Aq xs.length cq, .int .i64 0, .bool false] 38)
  generalize w2.alloc (.cells #[.slice Aq xs.length cq, .int .i64 0, .bool false] 38) = w3 at P oB3 B3 ⊢
  clear k1 k2 k3 k4 el4 oT R1 B2 oB1 BB hbig hm1 hm3 hg1
  generalize hbase : w'.heap.size = base at P hob hs1
  generalize hx0 : w2.heap.size = x at P ⊢
  generalize htop : x + 1 = top at P
  have hwb : w.heap.size ≤ base := by omega
  clear hbase hx0 htop hs2
  go_loopw [32] (fun i wi => ∃ (j : Nat) (bs' : List Int), j ≤ xs.length ∧ i = .int .i64 j ∧ OwnB wi w0.heap.size 5 (.slice Ab xs.length cb) bs' ∧ Fr (OfV (.slice Ab xs.length cb)) w3 wi) (fun i _ => xs.length - (intOf i).toNat)
  case atStart => exact ⟨0, _, Nat.zero_le _, rfl, oB3, Fr.refl _ _⟩
  case round =>
    clear oB3
    obtain ⟨j, bs', hj, rfl, oi, fi⟩ := hrel
    by_cases hjl : j < xs.length
    · clear P B3 hro
      obtain ⟨ai, rfl, ⟨y, hcy⟩, hfy, hby, hob2, hst⟩ := own_at oi j hjl
      clear oi
      go_wp2
      go_roundw
      case rel =>
        obtain ⟨bs2, o2⟩ := hst (bits .xor .u8 y 255)
        exact ⟨j + 1, bs2, by omega, by go_num, o2, fi.setCell (.inl (hob2 _ rfl)) _⟩
      case measure => simp [intOf]; omega
    · have Pi := P.fr fi (fun k h => .inl (hob k h))
      have Bi := Bl.trans B3 (Bl.of_fr fi B3.size (fun k hk => by have := OwnB.ge oi k hk; omega))
      clear P B3 oi fi
      go_wp2_with fail
      go_loopw [44] (fun i wr => ∃ (k : Nat) (bs : List Int) (bad : Bool), k ≤ os.length ∧ i = .int .i64 k ∧ Pair wr base top g x bs bad bs bad ∧ IsB bs ∧ Below w.heap.size w wr) (fun i _ => os.length - (intOf i).toNat)
      case atStart => exact ⟨0, xs, false, Nat.zero_le _, rfl, Pi, ib, Bi⟩
      case round =>
        clear Pi Bi ib hj hjl
        obtain ⟨k, bs, bad, hk, rfl, P, ib, B⟩ := hrel
        by_cases hlt : k < os.length
        · obtain ⟨ad, rfl, ho⟩ := hro.at_ B k hlt
          generalize os[k] = o at ho
          obtain ⟨ki, nn, vv, oA, oc, ob⟩ := o
          obtain ⟨a0, a1, a2, a3, sl, isb, v0, v1, n0, n1⟩ := ho
          simp only at a0 a1 a2 a3 sl isb v0 v1 n0 n1
          obtain ⟨q1, q2, q3, q4, q5⟩ := P.lt
          have bA := Blk.new wr #[.int .i64 ki, .int .i64 nn, .int .u32 vv, .slice oA ob.length oc] 41
          have PA := P.alloc (.cells #[.int .i64 ki, .int .i64 nn, .int .u32 vv, .slice oA ob.length oc] 41)
          have BA := B.alloc B.size (.cells #[.int .i64 ki, .int .i64 nn, .int .u32 vv, .slice oA ob.length oc] 41)
          clear sl isb v0 v1 hro
          by_cases h60 : 60 ≤ k
          · have h60' : (60 : Int) ≤ k := by omega
            have z0 := bA.cell 0
            have z1 := bA.cell 1
            have z2 := bA.cell 2
            have z3 := bA.cell 3
            simp at z0 z1 z2 z3
            go_wp2
            go_ret
            exact ⟨rfl, BA⟩
          · have h60' : ¬ (60 : Int) ≤ k := by omega
            clear P B
            have z0 := bA.cell 0
            have z1 := bA.cell 1
            have z2 := bA.cell 2
            have z3 := bA.cell 3
            simp at z0 z1 z2 z3
            go_upto_block 4 with fail
            clear a0 a1 a2 a3
            go_cut [] (fun wc => ∃ (bs : List Int) (bad : Bool), Pair wc base top g x bs bad bs bad ∧ IsB bs ∧ Below w.heap.size w wc)
            case first =>
              generalize hwA : wr.alloc (.cells #[.int .i64 ki, .int .i64 nn, .int .u32 vv, .slice oA ob.length oc] 41) = wA at PA BA bA ⊢
              rcases Bool.eq_false_or_eq_true ((IntKind.u64.wrap ki).tmod 5 == 0) with h0 | h0
              · --
                go_wp2_with fail
                refine (pu8_calls PA ib).mono ?_
                rintro e wB ⟨rfl, P1, f1⟩
                have B1 := Bl.trans BA (Bl.of_fr f1 BA.size (fun k hk => by have e : k = g := hk; omega))
                have hz := num_1 (tk bs 1) (tk_len bs 1) (isb_tk ib 1)
                have hz0 := (num_range (tk bs 1)).1
                have hzw : IntKind.u64.wrap (num (tk bs 1)) = num (tk bs 1) := by simp only [IntKind.wrap, IntKind.bits, IntKind.signed]; simp; omega
                clear PA BA bA z0 z1 z2 z3 f1
                go_wp2_with fail
                refine (ptnum_calls 1 P1 ib (by decide) (by decide)).mono ?_
                rintro e wC ⟨rfl, P2, f2⟩
                have B2 := Bl.trans B1 (Bl.of_fr f2 B1.size (fun k hk => by have e : k = x := hk; omega))
                clear P1 B1 f2
                go_wp2
                go_meet
                case rel => exact ⟨_, _, P2, isb_lf ib _, B2⟩
              · rcases Bool.eq_false_or_eq_true ((IntKind.u64.wrap ki).tmod 5 == 1) with h1 | h1
                · --
                  go_wp2_with fail
                  refine (pu16_calls PA ib).mono ?_
                  rintro e wB ⟨rfl, P1, f1⟩
                  have B1 := Bl.trans BA (Bl.of_fr f1 BA.size (fun k hk => by have e : k = g := hk; omega))
                  have hz := num_2 (tk bs 2) (tk_len bs 2) (isb_tk ib 2)
                  have hz0 := (num_range (tk bs 2)).1
                  have hzw : IntKind.u64.wrap (num (tk bs 2)) = num (tk bs 2) := by simp only [IntKind.wrap, IntKind.bits, IntKind.signed]; simp; omega
                  clear PA BA bA z0 z1 z2 z3 f1
                  go_wp2_with fail
                  refine (ptnum_calls 2 P1 ib (by decide) (by decide)).mono ?_
                  rintro e wC ⟨rfl, P2, f2⟩
                  have B2 := Bl.trans B1 (Bl.of_fr f2 B1.size (fun k hk => by have e : k = x := hk; omega))
                  clear P1 B1 f2
                  go_wp2
                  go_meet
                  case rel => exact ⟨_, _, P2, isb_lf ib _, B2⟩
                · rcases Bool.eq_false_or_eq_true ((IntKind.u64.wrap ki).tmod 5 == 2) with h2 | h2
                  · --
                    go_wp2_with fail
                    refine (pu32_calls PA ib).mono ?_
                    rintro e wB ⟨rfl, P1, f1⟩
                    have B1 := Bl.trans BA (Bl.of_fr f1 BA.size (fun k hk => by have e : k = g := hk; omega))
                    have hz := (num_range (tk bs 4)).2
                    have hz0 := (num_range (tk bs 4)).1
                    have hzw : IntKind.u64.wrap (num (tk bs 4)) = num (tk bs 4) := by simp only [IntKind.wrap, IntKind.bits, IntKind.signed]; simp; omega
                    clear PA BA bA z0 z1 z2 z3 f1
                    go_wp2_with fail
                    refine (ptnum_calls 4 P1 ib (by decide) (by decide)).mono ?_
                    rintro e wC ⟨rfl, P2, f2⟩
                    have B2 := Bl.trans B1 (Bl.of_fr f2 B1.size (fun k hk => by have e : k = x := hk; omega))
                    clear P1 B1 f2
                    go_wp2
                    go_meet
                    case rel => exact ⟨_, _, P2, isb_lf ib _, B2⟩
                  · rcases Bool.eq_false_or_eq_true ((IntKind.u64.wrap ki).tmod 5 == 3) with h3 | h3
                    · --
                      have z0 := bA.cell 0
                      have z1 := bA.cell 1
                      have z2 := bA.cell 2
                      have z3 := bA.cell 3
                      simp at z0 z1 z2 z3
                      go_wp2_with fail
                      refine (ptake_calls nn PA).mono ?_
                      rintro e wB ⟨At, kt, ct, rfl, rfl, ot, P1, f1⟩
                      have B1 := Bl.trans BA (Bl.of_fr f1 BA.size (fun k hk => by have e : k = g := hk; omega))
                      have b1 := bA.fr f1 (fun h => by have e : wr.heap.size = g := h; omega)
                      have hlt := bA.lt
                      have htop := PA.lt.2.2.2.2
                      have SX0 := slb_str (SlB.of_own (OwnB.fr ot (S := nothing) ((Fr.refl _ wB).drewN 1) (fun _ _ h => h)))
                      clear PA BA bA z0 z1 z2 z3
                      have z0 := b1.cell 0
                      have z1 := b1.cell 1
                      have z2 := b1.cell 2
                      have z3 := b1.cell 3
                      simp at z0 z1 z2 z3
                      go_wp2_with fail
                      clear z0 z2 z3
                      go_region_held_law (fun wq => (convert 22 9 (.slice At (tk bs nn).length ct)).run Try.prog wq = .ok (.string (bstr (tk bs nn))) wq ∧ wq.cell? ⟨wr.heap.size, 1, none⟩ = some (.int .i64 nn)) (first | exact ⟨SX0, z1⟩ | exact ⟨SX1, y1⟩) (first
                        | (go_at_call 19; refine (pttake_calls nn P1.drew n0 n1).mono ?_; rintro e wD ⟨Ar, kr, cr, rfl, SR, P2, f2⟩; have o2 := OwnB.fr (OwnB.fr ot (S := nothing) ((Fr.refl _ wB).drewN 1) (fun _ _ h => h)) f2 (fun k hk h => by have e : k = x := h; have := OwnB.ge ot k hk; omega); have SX1 := slb_str (SlB.of_own o2); have b2 := (b1.drewN 1).fr f2 (fun h => by have e : wr.heap.size = x := h; omega); have y1 := b2.cell 1; simp at y1; have B2 := Bl.trans B1.drew (Bl.of_fr f2 B1.size (fun k hk => by have e : k = x := hk; omega))))
                      all_goals
                        rename_i hK hH
                        refine hK _ _ ?_
                        clear hK hH
                        go_wp2_with fail
                        clear SX1 y1 b2 SR SX0 P1 B1 b1 ot hwA
                        generalize hT : tk bs nn = ts at o2 ⊢
                        clear hT
                        have htl : ts.length ≤ 9223372036854775807 := by
                          obtain ⟨A9, c9, e9, l1, l2, _⟩ := SlB.of_own o2
                          unfold maxLen at l2
                          omega
                        go_loopw [95] (fun i wi => ∃ (j : Nat) (bs' : List Int), j ≤ ts.length ∧ i = .int .i64 j ∧ OwnB wi wA.heap.size 5 (.slice At ts.length ct) bs' ∧ Fr (OfV (.slice At ts.length ct)) wD wi) (fun i _ => ts.length - (intOf i).toNat)
                        case atStart => exact ⟨0, _, Nat.zero_le _, rfl, o2, Fr.refl _ _⟩
                        case round =>
                          clear o2
                          obtain ⟨j2, bs', hj2, rfl, oi, fi⟩ := hrel
                          by_cases hjl2 : j2 < ts.length
                          · obtain ⟨ai, rfl, ⟨y, hcy⟩, hfy, hby, hob2, hst⟩ := own_at oi j2 hjl2
                            clear oi P2 B2
                            go_wp2
                            go_roundw
                            case rel =>
                              obtain ⟨bs2, o3⟩ := hst (bits .xor .u8 y 255)
                              exact ⟨j2 + 1, bs2, by omega, by go_num, o3, fi.setCell (.inl (hob2 _ rfl)) _⟩
                            case measure => simp [intOf]; omega
                          · have P3 := P2.fr fi (fun k h => .inr (by have := OwnB.ge oi k h; omega))
                            have B3 := Bl.trans B2 (Bl.of_fr fi B2.size (fun k hk => by have := OwnB.ge oi k hk; omega))
                            clear P2 B2 oi fi
                            go_wp2
                            go_meet
                            case rel => exact ⟨_, _, P3, isb_lf ib _, B3⟩
                    · go_wp2
                      go_meet
                      case rel => exact ⟨_, _, PA, ib, BA⟩
            case rest =>
              obtain ⟨bs, bad, P, ib, B⟩ := hcut
              clear PA BA bA z0 z1 z2 z3
              have hut := Try.underlying38
              have hml : maxLen = 9223372036854775807 := rfl
              rcases bad with _ | _
              · --
                have P0 := P
                obtain ⟨lo, hi, lx, hx, R, ⟨A4, c4, B4, t4, hb, ht, hbs, hbad, hlc, hcm, -, -⟩, -⟩ := P0
                have c0 := hb.cell 0
                have c1 := hb.cell 1
                have c2 := hb.cell 2
                simp at c0 c1 c2
                have hL : bs.length = B4.length - t4 := by rw [hbs]; simp
                by_cases hl : 0 < bs.length
                · have hd : decide ((t4 : Int) < B4.length) = true := by simp; omega
                  have hd2 : t4 < B4.length := by omega
                  have he := Lib.hid (show endOf bs false = 41 by simp [endOf, hl])
                  clear hL hl hbs hlc hcm
                  go_wp2_with fail
                  go_quiet (fail)
                  replace P := P.fr (S := nothing) ((Fr.refl _ _).drewN nq) (fun _ h => h.elim)
                  replace B : Below w.heap.size w (wc.drewN nq) := ⟨B.os, B.tape, B.output, B.size, B.block⟩
                  clear c0 c1 c2 hb ht R hbad
                  generalize wc.drewN nq = wd at P B ⊢
                  go_wp2_with fail
                  clear hd hd2
                  have P0 := P
                  obtain ⟨lo, hi, lx, hx, R, ⟨A4, c4, B4, t4, hb, ht, hbs, hbad, hlc, hcm, -, -⟩, -⟩ := P0
                  have c0 := hb.cell 0
                  have c1 := hb.cell 1
                  have c2 := hb.cell 2
                  simp at c0 c1 c2
                  have hwr : IntKind.i64.wrap ((B4.length : Int) - t4) = (bs.length : Int) := by rw [hbs, IntKind.wrap_i64]; simp; omega
                  have HR := Lib.hid (fun i => R.fr (S := nothing) ((Fr.refl _ wd).drewN i) (fun h => h) (fun _ _ _ h => h))
                  have HL := Lib.hid (fun i => left_calls g lo hi bs _ _ (HR.out i))
                  have HG := Lib.hid (fun i => good_calls g lo hi bs _ _ (HR.out i))
                  have HE := Lib.hid (fun i => end_calls g lo hi bs _ _ (HR.out i))
                  rw [he.out] at HE
                  clear hbs hbad hlc hcm hml R hb HR
                  go_quiet (first | (go_at_call 20; exact Calls.quiet_of_same (HL.out _)) | (go_at_call 21; exact Calls.quiet_of_same (HG.out _)) | (go_at_call 22; exact Calls.quiet_of_same (HE.out _)))
                  all_goals
                    go_wp2
                    go_roundw
                    case rel => exact ⟨k + 1, bs, _, by omega, by go_num, P.fr (S := nothing) ((Fr.refl _ _).drewN _) (fun _ h => h.elim), ib, ⟨B.os, B.tape, B.output, B.size, B.block⟩⟩
                    case measure => simp [intOf]; omega
                · have hd : decide ((t4 : Int) < B4.length) = false := by simp; omega
                  have hd2 : ¬ t4 < B4.length := by omega
                  have he := Lib.hid (show endOf bs false = 0 by unfold endOf; rw [if_neg (by decide), if_neg hl])
                  clear hL hl hbs hlc hcm
                  go_wp2_with fail
                  go_quiet (fail)
                  replace P := P.fr (S := nothing) ((Fr.refl _ _).drewN nq) (fun _ h => h.elim)
                  replace B : Below w.heap.size w (wc.drewN nq) := ⟨B.os, B.tape, B.output, B.size, B.block⟩
                  clear c0 c1 c2 hb ht R hbad
                  generalize wc.drewN nq = wd at P B ⊢
                  go_wp2_with fail
                  clear hd hd2
                  have P0 := P
                  obtain ⟨lo, hi, lx, hx, R, ⟨A4, c4, B4, t4, hb, ht, hbs, hbad, hlc, hcm, -, -⟩, -⟩ := P0
                  have c0 := hb.cell 0
                  have c1 := hb.cell 1
                  have c2 := hb.cell 2
                  simp at c0 c1 c2
                  have hwr : IntKind.i64.wrap ((B4.length : Int) - t4) = (bs.length : Int) := by rw [hbs, IntKind.wrap_i64]; simp; omega
                  have HR := Lib.hid (fun i => R.fr (S := nothing) ((Fr.refl _ wd).drewN i) (fun h => h) (fun _ _ _ h => h))
                  have HL := Lib.hid (fun i => left_calls g lo hi bs _ _ (HR.out i))
                  have HG := Lib.hid (fun i => good_calls g lo hi bs _ _ (HR.out i))
                  have HE := Lib.hid (fun i => end_calls g lo hi bs _ _ (HR.out i))
                  rw [he.out] at HE
                  clear hbs hbad hlc hcm hml R hb HR
                  go_quiet (first | (go_at_call 20; exact Calls.quiet_of_same (HL.out _)) | (go_at_call 21; exact Calls.quiet_of_same (HG.out _)) | (go_at_call 22; exact Calls.quiet_of_same (HE.out _)))
                  all_goals
                    go_wp2
                    go_roundw
                    case rel => exact ⟨k + 1, bs, _, by omega, by go_num, P.fr (S := nothing) ((Fr.refl _ _).drewN _) (fun _ h => h.elim), ib, ⟨B.os, B.tape, B.output, B.size, B.block⟩⟩
                    case measure => simp [intOf]; omega
              · --
                have P0 := P
                obtain ⟨lo, hi, lx, hx, R, ⟨A4, c4, B4, t4, hb, ht, hbs, hbad, hlc, hcm, -, -⟩, -⟩ := P0
                have c0 := hb.cell 0
                have c1 := hb.cell 1
                have c2 := hb.cell 2
                simp at c0 c1 c2
                go_wp2_with fail
                have hwr : IntKind.i64.wrap ((B4.length : Int) - t4) = (bs.length : Int) := by rw [hbs, IntKind.wrap_i64]; simp; omega
                have HR := Lib.hid (fun i => R.fr (S := nothing) ((Fr.refl _ wc).drewN i) (fun h => h) (fun _ _ _ h => h))
                have HL := Lib.hid (fun i => left_calls g lo hi bs _ _ (HR.out i))
                have HG := Lib.hid (fun i => good_calls g lo hi bs _ _ (HR.out i))
                have HE := Lib.hid (fun i => end_calls g lo hi bs _ _ (HR.out i))
                rw [show endOf bs true = 40 from rfl] at HE
                clear hbs hbad hlc hcm hml R hb HR
                go_quiet (first | (go_at_call 20; exact Calls.quiet_of_same (HL.out _)) | (go_at_call 21; exact Calls.quiet_of_same (HG.out _)) | (go_at_call 22; exact Calls.quiet_of_same (HE.out _)))
                all_goals
                  go_wp2
                  go_roundw
                  case rel => exact ⟨k + 1, bs, _, by omega, by go_num, P.fr (S := nothing) ((Fr.refl _ _).drewN _) (fun _ h => h.elim), ib, ⟨B.os, B.tape, B.output, B.size, B.block⟩⟩
                  case measure => simp [intOf]; omega
        · go_wp2
          go_ret
          exact ⟨rfl, B⟩
end Go.Proofs.Ytljffdahldiafaa.OctetReads
