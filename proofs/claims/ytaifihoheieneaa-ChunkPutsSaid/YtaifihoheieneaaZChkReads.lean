/- What the chunk's reader reads, whatever the kind. Conditions: each names its blocks. -/
import Derived.Test.YtaifihoheieneaaZChkRead
import Derived.Test.YtaifihoheieneaaZChkRead2
import Derived.Test.YtaifihoheieneaaZChkRead3
import Derived.Test.YtaifihoheieneaaZChkRead4
import Derived.Test.YtaifihoheieneaaZChkRead7
import Derived.Test.YtaifihoheieneaaZChkRead9
import Derived.Test.YtaifihoheieneaaZChkRead5
import Derived.Test.YtaifihoheieneaaZChkRead6
import Derived.Test.YtaifihoheieneaaZChkRead8
import Derived.Test.YtaifihoheieneaaZChkRd
import Derived.Test.YtaifihoheieneaaZChkBody
import Derived.Test.YtaifihoheieneaaZMem
import Derived.IntWalk
namespace Go.Proofs.Ytaifihoheieneaa.Chk
open Go.RowKit Go.Proofs.Ytaifihoheieneaa.Mem Go.Proofs.Ytaifihoheieneaa.Octet Go.Proofs.Ytaifihoheieneaa.Prm
set_option linter.unusedVariables false
theorem read_calls (gX gR gC lo hi : Nat) (k f : Int) (xs : List Int) (w : World) (H0 : Rg w w gX gR gC lo hi xs false false (z19 k)) (S : Sp w gX gR gC lo hi) (hB : IsB xs) (hl : xs.length ≤ 100000) (hf : 0 ≤ f ∧ f < 256) (hk : kn k = true) :
    Calls Try.prog 42 #[.pointer (some ⟨gX, 0, none⟩), .pointer (some ⟨gC, 0, none⟩), .int .u8 f] w (ReadP w gX gR gC k f xs) := by
  simp [kn] at hk
  rcases hk with rfl | rfl | rfl | rfl | rfl | rfl | rfl | rfl | rfl | rfl | rfl | rfl | rfl | rfl | rfl | rfl | rfl
  · exact read_0 gX gR gC lo hi f xs w H0 S hB hl hf
  · exact read_1 gX gR gC lo hi f xs w H0 S hB hl hf
  · exact read_2 gX gR gC lo hi f xs w H0 S hB hl hf
  · exact read_3 gX gR gC lo hi f xs w H0 S hB hl hf
  · exact read_4 gX gR gC lo hi f xs w H0 S hB hl hf
  · exact read_5 gX gR gC lo hi f xs w H0 S hB hl hf
  · exact read_6 gX gR gC lo hi f xs w H0 S hB hl hf
  · exact read_7 gX gR gC lo hi f xs w H0 S hB hl hf
  · exact read_8 gX gR gC lo hi f xs w H0 S hB hl hf
  · exact read_9 gX gR gC lo hi f xs w H0 S hB hl hf
  · exact read_10 gX gR gC lo hi f xs w H0 S hB hl hf
  · exact read_11 gX gR gC lo hi f xs w H0 S hB hl hf
  · exact read_14 gX gR gC lo hi f xs w H0 S hB hl hf
  · exact read_64 gX gR gC lo hi f xs w H0 S hB hl hf
  · exact read_130 gX gR gC lo hi f xs w H0 S hB hl hf
  · exact read_192 gX gR gC lo hi f xs w H0 S hB hl hf
  · exact read_194 gX gR gC lo hi f xs w H0 S hB hl hf
end Go.Proofs.Ytaifihoheieneaa.Chk
namespace Go.Proofs.Ytaifihoheieneaa.Chk
open Go.RowKit Go.Proofs.Ytaifihoheieneaa.Mem Go.Proofs.Ytaifihoheieneaa.Octet Go.Proofs.Ytaifihoheieneaa.Prm
set_option linter.unusedVariables false
set_option linter.unusedSimpArgs false
theorem nz2_calls (x : Int) (w : World) : Calls Try.prog 41 #[.int .u8 x] w fun e w' => e = .returned (.bool (x != 0)) ∧ w' = w := by
  go_enter Try.func41, Try.ntmps41
  go_wp2
  go_ret
  exact ⟨rfl, rfl⟩
set_option maxHeartbeats 1000000 in
theorem index2_calls (lo hi : Nat) (A : Option Addr) (c : Nat) (xs : List Int) (w : World) (h : RdB w lo hi A xs) (hl : xs.length ≤ 140737488355328) :
    Calls Try.prog 53 #[.slice A xs.length c, .func (.func 41) #[] #[]] w fun e w' => ∃ r : Int, e = .returned (.int .i64 r) ∧ decide (0 ≤ r) = xs.any (fun x => x != 0) ∧ w' = w := by
  go_enter Try.func53, Try.ntmps53
  go_wp2_with fail
  go_loopw [8] (fun i wr => ∃ k : Nat, k ≤ xs.length ∧ i = .int .i64 k ∧ (∀ j (h1 : j < xs.length), j < k → xs[j] = 0) ∧ wr = w) (fun i _ => xs.length - (intOf i).toNat)
  case atStart => exact ⟨0, Nat.zero_le _, rfl, (fun j _ h => by omega), rfl⟩
  case round =>
    obtain ⟨k, hk, rfl, hall, rfl⟩ := hrel
    by_cases hlt : k < xs.length
    · obtain ⟨ad, rfl, hc⟩ := h.at_ k hlt
      have HA := Lib.hid hall
      clear hall
      have hlt' : (k : Int) < xs.length := by omega
      by_cases hz : xs[k] = 0
      · have hz2 : (xs[k] != 0) = false := by simp [hz]
        have HZ := Lib.hid hz
        clear hz
        generalize hxk : xs[k] = x at hc hz2 HZ
        have HXK := Lib.hid hxk
        clear hxk
        go_wp2_with fail
        refine (nz2_calls x _).mono ?_
        rintro e w1 ⟨he, rfl⟩
        rw [hz2] at he
        subst he
        go_wp2
        go_roundw
        case rel =>
          refine ⟨k + 1, by omega, by go_num, fun j h1 hj => ?_, by first | rfl | trivial⟩
          rcases Nat.lt_succ_iff_lt_or_eq.1 hj with hj | rfl
          · exact HA.out j h1 hj
          · exact HXK.out.trans HZ.out
        case measure => simp [intOf]; omega
      · have hz2 : (xs[k] != 0) = true := by simp [hz]
        have HF := Lib.hid (show xs.any (fun x => x != 0) = true from List.any_eq_true.2 ⟨xs[k], List.getElem_mem hlt, hz2⟩)
        clear hz
        generalize xs[k] = x at hc hz2
        go_wp2_with fail
        refine (nz2_calls x _).mono ?_
        rintro e w1 ⟨he, rfl⟩
        rw [hz2] at he
        subst he
        go_wp2
        go_ret
        exact ⟨_, rfl, by rw [HF.out]; simp, rfl⟩
    · have HF := Lib.hid (show xs.any (fun x => x != 0) = false by
        rw [List.any_eq_false]
        intro x hx
        obtain ⟨j, hj, rfl⟩ := List.mem_iff_getElem.1 hx
        simp [hall j hj (by omega)])
      have hlt' : ¬ (k : Int) < xs.length := by omega
      clear hall
      go_wp2
      go_ret
      exact ⟨_, rfl, by rw [HF.out]; rfl, rfl⟩
set_option maxHeartbeats 1000000 in
theorem has2_calls (lo hi : Nat) (A : Option Addr) (c : Nat) (xs : List Int) (w : World) (h : RdB w lo hi A xs) (hl : xs.length ≤ 140737488355328) :
    Calls Try.prog 40 #[.slice A xs.length c, .func (.func 41) #[] #[]] w fun e w' => e = .returned (.bool (xs.any (fun x => x != 0))) ∧ w' = w := by
  go_enter Try.func40, Try.ntmps40
  go_wp2_with fail
  refine (index2_calls lo hi A c xs w h hl).mono ?_
  rintro e w1 ⟨r, rfl, hr, rfl⟩
  generalize hb : xs.any (fun x => x != 0) = b at hr
  have HB := Lib.hid hb
  clear hb
  go_wp2
  go_ret
  exact ⟨by rw [HB.out]; rfl, rfl⟩
end Go.Proofs.Ytaifihoheieneaa.Chk
namespace Go.Proofs.Ytaifihoheieneaa.Chk
open Go.RowKit Go.Proofs.Ytaifihoheieneaa.Mem Go.Proofs.Ytaifihoheieneaa.Octet Go.Proofs.Ytaifihoheieneaa.Prm
set_option linter.unusedVariables false
set_option linter.unusedSimpArgs false
section
variable {P : Program}
theorem results_cell_tmp2 {fn : Func} {p u v : Tmp} {ty : TypeId} (h : fn.results = #[.cell p ty, .tmp u, .tmp v]) (tmps : Array Value) (P : Program) (w : World) :
    (results fn tmps).run P w = ((asAddr (tmps.getD p undef)).run P w).andThen fun a w₁ => ((loadVar ty a).run P w₁).andThen fun x w₂ => .ok (.tuple #[x, tmps.getD u undef, tmps.getD v undef]) w₂ := by
  simp only [results, h]
  simp [Sem.run_bind, Result.andThen]
theorem results_blk3 {fn : Func} {p u v : Tmp} {ty : TypeId} (h : fn.results = #[.cell p ty, .tmp u, .tmp v]) (tmps : Array Value) {w : World} {g : Nat} {t : TypeId} {cs : Array Value} {d : TypeDesc}
    (hp : tmps.getD p undef = .pointer (some ⟨g, 0, none⟩)) (hb : Blk w g t cs) (hu : P.underlying ty = some d) (hd : (match d with | .struct _ | .array _ _ => true | _ => false) = true) (hi : (P.info? ty).map (·.size) = some cs.size) :
    (results fn tmps).run P w = .ok (.tuple #[.agg cs, tmps.getD u undef, tmps.getD v undef]) w := by
  rw [results_cell_tmp2 h, hp]
  simp [asAddr, run_loadVar_row (P := P) w g t ty cs (0, 0) d hb hu hd hi]
/-- A load of a whole struct out of its block, that leaves the world. -/
theorem still_load_blk {o : Oper} {a : Act} {w : World} {K : Act → Prop} {t : TypeId} {x : Operand} {g : Nat} {cs : Array Value} {d : TypeDesc} (ho : o.op = .load t x) (hx : a.eval x = .pointer (some ⟨g, 0, none⟩))
    (hb : Blk w g t cs) (hu : P.underlying t = some d) (hd : (match d with | .struct _ | .array _ _ => true | _ => false) = true) (hi : (P.info? t).map (·.size) = some cs.size) (h : K (a.put o.dst (.agg cs))) : o.still P a w K := by
  have hr := run_loadVar_row (P := P) w g t t cs (0, 0) d hb hu hd hi
  unfold Oper.still execOp
  simp only [ho, hx, Instr.loadAt, Instr.sureAddr, Sem.run_bind, Sem.run_pure, Result.andThen_ok, hr]
  exact ⟨rfl, h⟩
end
def at1 (xs : List Int) (m : Nat) : Int := num (tk (xs.drop m) 1)
theorem at1_rng {xs : List Int} (h : IsB xs) (m : Nat) : 0 ≤ at1 xs m ∧ at1 xs m < 256 :=
  ⟨(num_range _).1, num_1 _ (tk_len _ 1) (isb_tk (isb_drop h m) _)⟩
theorem rd1_calls (g lo hi : Nat) (xs : List Int) (m : Nat) (w : World) (h : Rdr w g lo hi (xs.drop m) (decide (xs.length < m))) (hB : IsB xs) :
    Calls Try.prog 36 #[.pointer (some ⟨g, 0, none⟩)] w fun e w' => e = .returned (.int .u8 (at1 xs m)) ∧ Rdr w' g lo hi (xs.drop (m + 1)) (decide (xs.length < m + 1)) ∧ Fr (only g) w w' := by
  have C := u8_calls g lo hi _ _ w h (isb_drop hB m) h.choose_spec.1.lt
  unfold Num1P at C
  have e1 := lf_drop xs m 1
  have e2 := bd_drop xs m 1 (by decide)
  rw [show ((1 : Nat) : Int) = 1 from rfl] at e1 e2
  rw [e1, e2] at C
  exact C
/-- The length that the head tells. -/
def gL (bs : List Int) : Nat := (at2 bs 2).toNat
def gI (bs : List Int) : List Int := (bs.take (gL bs)).drop 4
def gE (bs : List Int) : Int :=
  if bs.length < 4 then 40 else if gL bs < 4 then 42 else if bs.length < all (gL bs) then 40 else if ((bs.take (all (gL bs))).drop (gL bs)).any (fun x => x != 0) = true then 42
  else if kn (at1 bs 0) = false then 60 else if rOk (at1 bs 0) (at1 bs 1) (gI bs) = false then 42 else 0
def gCk (bs : List Int) : Ck := if gE bs = 0 then rC (at1 bs 0) (at1 bs 1) (gI bs) else zC 0
def gN (bs : List Int) : Nat := if gE bs = 0 then all (gL bs) else 0
theorem gC_bad {bs : List Int} (h : gE bs ≠ 0) : gCk bs = zC 0 := by unfold gCk; rw [if_neg h]
theorem gN_bad {bs : List Int} (h : gE bs ≠ 0) : gN bs = 0 := by unfold gN; rw [if_neg h]
theorem gE_1 {bs : List Int} (h : bs.length < 4) : gE bs = 40 := by unfold gE; rw [if_pos h]
theorem gE_2 {bs : List Int} (h : ¬ bs.length < 4) (h2 : gL bs < 4) : gE bs = 42 := by unfold gE; rw [if_neg h, if_pos h2]
theorem gE_3 {bs : List Int} (h : ¬ bs.length < 4) (h2 : ¬ gL bs < 4) (h3 : bs.length < all (gL bs)) : gE bs = 40 := by unfold gE; rw [if_neg h, if_neg h2, if_pos h3]
theorem gE_4 {bs : List Int} (h : ¬ bs.length < 4) (h2 : ¬ gL bs < 4) (h3 : ¬ bs.length < all (gL bs)) (h4 : ((bs.take (all (gL bs))).drop (gL bs)).any (fun x => x != 0) = true) : gE bs = 42 := by
  unfold gE; rw [if_neg h, if_neg h2, if_neg h3, if_pos h4]
theorem gE_5 {bs : List Int} (h : ¬ bs.length < 4) (h2 : ¬ gL bs < 4) (h3 : ¬ bs.length < all (gL bs)) (h4 : ((bs.take (all (gL bs))).drop (gL bs)).any (fun x => x != 0) = false) (h5 : kn (at1 bs 0) = false) : gE bs = 60 := by
  unfold gE; rw [if_neg h, if_neg h2, if_neg h3, if_neg (by rw [h4]; decide), if_pos h5]
theorem gE_6 {bs : List Int} (h : ¬ bs.length < 4) (h2 : ¬ gL bs < 4) (h3 : ¬ bs.length < all (gL bs)) (h4 : ((bs.take (all (gL bs))).drop (gL bs)).any (fun x => x != 0) = false) (h5 : kn (at1 bs 0) = true) :
    gE bs = if rOk (at1 bs 0) (at1 bs 1) (gI bs) = false then 42 else 0 := by
  unfold gE; rw [if_neg h, if_neg h2, if_neg h3, if_neg (by rw [h4]; decide), if_neg (by rw [h5]; decide)]
theorem CkV.more {w : World} {lo hi lo' hi' : Nat} {cs : Array Value} {c : Ck} (h : CkV w lo hi cs c) (h1 : lo' ≤ lo) (h2 : hi ≤ hi') : CkV w lo' hi' cs c := by
  obtain ⟨A14, p14, e14, h14⟩ := h.c14
  obtain ⟨A15, p15, e15, h15⟩ := h.c15
  obtain ⟨A16, p16, e16, h16⟩ := h.c16
  obtain ⟨A17, p17, e17, h17⟩ := h.c17
  obtain ⟨A18, p18, e18, h18⟩ := h.c18
  have sl : ∀ {v : Value} {ys : List Int}, SlB w lo hi v ys → SlB w lo' hi' v ys := fun h => by
    obtain ⟨A, cap, e, a1, a2, a3, a4⟩ := h
    exact ⟨A, cap, e, a1, a2, a3, a4.more h1 h2⟩
  exact { h with
    c14 := ⟨A14, p14, e14, fun i hi => by obtain ⟨ad, e, a1, a2, a3⟩ := h14 i hi; exact ⟨ad, e, by omega, by omega, a3⟩⟩
    c15 := ⟨A15, p15, e15, fun i hi => by obtain ⟨ad, e, a1, a2, a3⟩ := h15 i hi; exact ⟨ad, e, by omega, by omega, a3⟩⟩
    c16 := ⟨A16, p16, e16, fun i hi => by obtain ⟨ad, e, a1, a2, a3⟩ := h16 i hi; exact ⟨ad, e, by omega, by omega, a3⟩⟩
    c17 := ⟨A17, p17, e17, fun i hi => by obtain ⟨ad, s, e, a1, a2, a3, a4, a5⟩ := h17 i hi; exact ⟨ad, s, e, by omega, by omega, a3, a4, sl a5⟩⟩
    c18 := ⟨A18, p18, e18, sl h18⟩ }
theorem tk_short2 {bs : List Int} (h : bs.length < 4) : at2 bs 2 = 0 := by
  unfold at2 tk
  rw [if_pos (.inr (by rw [List.length_drop]; omega))]
  rfl
/-- What chunk.Get hands back. -/
def GetC (w : World) (bs : List Int) (e : Ending) (w' : World) : Prop :=
  Below w.heap.size w w' ∧ ∃ cs, e = .returned (.tuple #[.agg cs, .int .i64 (gN bs : Nat), .int .i64 (gE bs)]) ∧ CkV w' w.heap.size w'.heap.size cs (gCk bs)
set_option maxHeartbeats 4000000 in
set_option maxRecDepth 100000 in
theorem cget_calls (lo hi : Nat) (v : Value) (bs : List Int) (w : World) (h : SlB w lo hi v bs) (hhi : hi ≤ w.heap.size) (hB : IsB bs) (hl : bs.length ≤ 140737488355000) :
    Calls Try.prog 18 #[v] w (GetC w bs) := by
  have hup := Try.underlying31
  have B1 : Below w.heap.size w (w.alloc (.cells zch 31)) := (Below.refl _ w).alloc (Nat.le_refl _) _
  have bZ : Blk (w.alloc (.cells zch 31)) w.heap.size 31 (z19 0) := Blk.new w zch 31
  have X1 := SlB.bl h B1 hhi
  have hs1 : (w.alloc (.cells zch 31)).heap.size = w.heap.size + 1 := by simp
  obtain ⟨A, c, rfl, -⟩ := id h
  have hk := at1_rng hB 0
  have hf := at1_rng hB 1
  have HB := Lib.hid hB
  clear h hB
  unfold GetC
  obtain ⟨N, hN⟩ : ∃ N : Nat, at2 bs 2 = (N : Int) := ⟨(at2 bs 2).toNat, by have := at2_rng HB.out 2; omega⟩
  have hNb : (N : Int) < 65536 := by have := at2_rng HB.out 2; omega
  have hgL : gL bs = N := by unfold gL; rw [hN]; rfl
  have HN := Lib.hid hN
  by_cases h4 : bs.length < 4
  · have HE := Lib.hid (gE_1 h4)
    have hb4 : decide (bs.length < 2 + 2) = true := decide_eq_true (by omega)
    obtain rfl : N = 0 := by have := tk_short2 h4; omega
    clear hN hgL h4
    go_enter Try.func18, Try.ntmps18
    go_upto_region 1 with fail
    generalize w.alloc (.cells zch 31) = w1 at *
    go_wp2_with fail
    refine (new_calls lo hi _ bs w1 X1 (by omega)).mono ?_
    rintro e w2 ⟨g, m, rfl, hm1, hm2, R, B2⟩
    have B3 := Bl.trans B1 (Bl.low B2 B1.size)
    replace bZ := bZ.fr (Fr.of_below (S := nothing) B2) id
    have hgZ : g ≠ w.heap.size := by omega
    go_upto_region 2 with fail
    refine wp_region_lit ?_
    refine wpList_plain rfl (fun K hK => ?_)
    go_simp
    refine hK _ _ ?_
    clear hK K
    refine wpList_plain rfl (fun K hK => ?_)
    go_simp
    go_at_call 36
    refine (rd1_calls g _ _ bs 0 _ (by simpa using R) HB.out).mono ?_
    rintro e w3 ⟨rfl, R3, f3⟩
    simp only []
    refine hK _ _ ?_
    clear hK K
    replace bZ := bZ.fr f3 (fun h => by have h9 : w.heap.size = g := h; omega)
    have B4 := Bl.trans B3 (Bl.of_fr f3 B3.size (fun k h => by have h9 : k = g := h; omega))
    clear R B2 B3 f3
    refine wpList_plain rfl (fun K hK => ?_)
    go_simp
    refine hK _ _ ?_
    clear hK K
    refine wpList_plain rfl (fun K hK => ?_)
    go_simp
    refine hK _ _ ?_
    clear hK K
    refine wpList_plain rfl (fun K hK => ?_)
    refine oper_store (cs0 := zch) (cs := #[.int .u8 (at1 bs 0), .bool false, .bool false, .bool false, .bool false, .int .u32 0, .int .u16 0, .int .u32 0, .int .u32 0, .int .u32 0, .int .u32 0, .int .u32 0, .int .u16 0, .int .u16 0, .slice none 0 0, .slice none 0 0, .slice none 0 0, .slice none 0 0, .slice none 0 0]) rfl rfl rfl (Blk.new w3 zch 31) (by kernel_rfl) rfl (by simp [Value.oneCell']) ?_
    refine hK _ _ ?_
    clear hK K
    refine wpList_nil ?_
    have bC : Blk ((w3.alloc (.cells zch 31)).setRow w3.heap.size #[.int .u8 (at1 bs 0), .bool false, .bool false, .bool false, .bool false, .int .u32 0, .int .u16 0, .int .u32 0, .int .u32 0, .int .u32 0, .int .u32 0, .int .u32 0, .int .u16 0, .int .u16 0, .slice none 0 0, .slice none 0 0, .slice none 0 0, .slice none 0 0, .slice none 0 0]) w3.heap.size 31 (z19 (at1 bs 0)) := blk_row #[.int .u8 (at1 bs 0), .bool false, .bool false, .bool false, .bool false, .int .u32 0, .int .u16 0, .int .u32 0, .int .u32 0, .int .u32 0, .int .u32 0, .int .u32 0, .int .u16 0, .int .u16 0, .slice none 0 0, .slice none 0 0, .slice none 0 0, .slice none 0 0, .slice none 0 0] (Blk.new w3 zch 31)
    have F4 : Fr nothing w3 ((w3.alloc (.cells zch 31)).setRow w3.heap.size #[.int .u8 (at1 bs 0), .bool false, .bool false, .bool false, .bool false, .int .u32 0, .int .u16 0, .int .u32 0, .int .u32 0, .int .u32 0, .int .u32 0, .int .u32 0, .int .u16 0, .int .u16 0, .slice none 0 0, .slice none 0 0, .slice none 0 0, .slice none 0 0, .slice none 0 0]) := ((Fr.refl nothing w3).alloc _).trans (fr_row w3.heap.size #[.int .u8 (at1 bs 0), .bool false, .bool false, .bool false, .bool false, .int .u32 0, .int .u16 0, .int .u32 0, .int .u32 0, .int .u32 0, .int .u32 0, .int .u32 0, .int .u16 0, .int .u16 0, .slice none 0 0, .slice none 0 0, .slice none 0 0, .slice none 0 0, .slice none 0 0]) (fun k hk h => by have h9 : k = w3.heap.size := h; omega)
    have hgw := R3.choose_spec.1.lt
    have hwg : w.heap.size < w3.heap.size := bZ.lt
    generalize (w3.alloc (.cells zch 31)).setRow w3.heap.size #[.int .u8 (at1 bs 0), .bool false, .bool false, .bool false, .bool false, .int .u32 0, .int .u16 0, .int .u32 0, .int .u32 0, .int .u32 0, .int .u32 0, .int .u32 0, .int .u16 0, .int .u16 0, .slice none 0 0, .slice none 0 0, .slice none 0 0, .slice none 0 0, .slice none 0 0] = w4 at *
    replace bZ := bZ.fr F4 id
    have R4 := R3.fr F4 id (fun _ _ _ h => h)
    have B5 := Bl.trans B4 (Bl.of_fr F4 B4.size (fun k h => h.elim))
    generalize w3.heap.size = gC at *
    clear R3 B4 F4
    go_wp2_with fail
    refine (rd1_calls g _ _ bs 1 _ R4 HB.out).mono ?_
    rintro e w5 ⟨rfl, R5, f⟩
    replace bZ := bZ.fr f (fun h => by have h9 : w.heap.size = g := h; omega)
    replace bC := bC.fr f (fun h => by have h9 : gC = g := h; omega)
    have B6 := Bl.trans B5 (Bl.of_fr f B5.size (fun k h => by have h9 : k = g := h; omega))
    clear B5 f
    have B5 := B6
    clear B6
    clear R4
    have CN := rd2_calls g _ _ bs 2 _ R5 HB.out
    rw [HN.out] at CN
    have HCN := Lib.hid CN
    clear CN
    go_wp2_with fail
    refine (HCN.out).mono ?_
    rintro e w6 ⟨rfl, R6, f⟩
    replace bZ := bZ.fr f (fun h => by have h9 : w.heap.size = g := h; omega)
    replace bC := bC.fr f (fun h => by have h9 : gC = g := h; omega)
    have B6 := Bl.trans B5 (Bl.of_fr f B5.size (fun k h => by have h9 : k = g := h; omega))
    clear B5 f
    have B5 := B6
    clear B6
    clear R5 HCN
    rw [hb4] at R6
    go_wp2_with fail
    refine (good_calls g _ _ _ _ _ R6).mono ?_
    rintro e w7 ⟨rfl, hw7⟩
    rw [hw7]
    clear hw7 w7
    have hgw6 : g < w6.heap.size := R6.choose_spec.1.lt
    go_wp2_with fail
    refine (take_out g _ _ _ _ _ _ R6 (.inl (by decide))).mono ?_
    rintro e w8 ⟨rfl, R8, f⟩
    replace bZ := bZ.fr f (fun h => by have h9 : w.heap.size = g := h; omega)
    replace bC := bC.fr f (fun h => by have h9 : gC = g := h; omega)
    have B6 := Bl.trans B5 (Bl.of_fr f B5.size (fun k h => by have h9 : k = g := h; omega))
    clear B5 f
    have B5 := B6
    clear B6
    go_wp2_with fail
    refine (take_bad g _ _ _ R8).mono ?_
    rintro e w9 ⟨rfl, hw9⟩
    rw [hw9]
    clear hw9 w9
    go_wp2_with fail
    refine (good_calls g _ _ _ _ _ R8).mono ?_
    rintro e w10 ⟨rfl, hw10⟩
    rw [hw10]
    clear hw10 w10
    go_upto_region 10 with fail
    refine wp_region_lit ?_
    refine wpList_plain rfl (fun K hK => ?_)
    go_simp
    refine hK _ _ ?_
    clear hK K
    refine wpList_plain rfl (fun K hK => ?_)
    refine oper_store (cs0 := z19 0) (cs := zch) rfl rfl rfl bZ (by kernel_rfl) rfl (by simp [Value.oneCell']) ?_
    refine hK _ _ ?_
    clear hK K
    refine wpList_plain rfl (fun K hK => ?_)
    go_simp
    refine hK _ _ ?_
    clear hK K
    refine wpList_plain rfl (fun K hK => ?_)
    go_simp
    refine hK _ _ ?_
    clear hK K
    refine wpList_nil ?_
    have bQ := blk_row zch bZ
    have fQ := fr_row (w := w8) w.heap.size zch
    generalize World.setRow w8 w.heap.size zch = wz at *
    go_wp2
    (try simp only [Exit.inBlock, Exit.then])
    refine bodyPost_ret (results_blk3 rfl _ rfl bQ hup rfl (by kernel_rfl)) rfl ?_
    refine ⟨Bl.trans B5 (Bl.of_fr fQ B5.size (fun k h => by have h9 : k = w.heap.size := h; omega)), z19 0, ?_, ?_⟩
    · rw [gN_bad (by rw [HE.out]; decide), HE.out]; rfl
    · rw [gC_bad (by rw [HE.out]; decide)]; exact ckv_zero _ _ _ _
  have hb4 : decide (bs.length < 2 + 2) = false := decide_eq_false (by omega)
  by_cases hn4 : N < 4
  · have HE := Lib.hid (gE_2 h4 (by omega))
    have hd4 : decide ((N : Int) < 4) = true := decide_eq_true (by omega)
    clear hN hgL h4 hn4
    go_enter Try.func18, Try.ntmps18
    go_upto_region 1 with fail
    generalize w.alloc (.cells zch 31) = w1 at *
    go_wp2_with fail
    refine (new_calls lo hi _ bs w1 X1 (by omega)).mono ?_
    rintro e w2 ⟨g, m, rfl, hm1, hm2, R, B2⟩
    have B3 := Bl.trans B1 (Bl.low B2 B1.size)
    replace bZ := bZ.fr (Fr.of_below (S := nothing) B2) id
    have hgZ : g ≠ w.heap.size := by omega
    go_upto_region 2 with fail
    refine wp_region_lit ?_
    refine wpList_plain rfl (fun K hK => ?_)
    go_simp
    refine hK _ _ ?_
    clear hK K
    refine wpList_plain rfl (fun K hK => ?_)
    go_simp
    go_at_call 36
    refine (rd1_calls g _ _ bs 0 _ (by simpa using R) HB.out).mono ?_
    rintro e w3 ⟨rfl, R3, f3⟩
    simp only []
    refine hK _ _ ?_
    clear hK K
    replace bZ := bZ.fr f3 (fun h => by have h9 : w.heap.size = g := h; omega)
    have B4 := Bl.trans B3 (Bl.of_fr f3 B3.size (fun k h => by have h9 : k = g := h; omega))
    clear R B2 B3 f3
    refine wpList_plain rfl (fun K hK => ?_)
    go_simp
    refine hK _ _ ?_
    clear hK K
    refine wpList_plain rfl (fun K hK => ?_)
    go_simp
    refine hK _ _ ?_
    clear hK K
    refine wpList_plain rfl (fun K hK => ?_)
    refine oper_store (cs0 := zch) (cs := #[.int .u8 (at1 bs 0), .bool false, .bool false, .bool false, .bool false, .int .u32 0, .int .u16 0, .int .u32 0, .int .u32 0, .int .u32 0, .int .u32 0, .int .u32 0, .int .u16 0, .int .u16 0, .slice none 0 0, .slice none 0 0, .slice none 0 0, .slice none 0 0, .slice none 0 0]) rfl rfl rfl (Blk.new w3 zch 31) (by kernel_rfl) rfl (by simp [Value.oneCell']) ?_
    refine hK _ _ ?_
    clear hK K
    refine wpList_nil ?_
    have bC : Blk ((w3.alloc (.cells zch 31)).setRow w3.heap.size #[.int .u8 (at1 bs 0), .bool false, .bool false, .bool false, .bool false, .int .u32 0, .int .u16 0, .int .u32 0, .int .u32 0, .int .u32 0, .int .u32 0, .int .u32 0, .int .u16 0, .int .u16 0, .slice none 0 0, .slice none 0 0, .slice none 0 0, .slice none 0 0, .slice none 0 0]) w3.heap.size 31 (z19 (at1 bs 0)) := blk_row #[.int .u8 (at1 bs 0), .bool false, .bool false, .bool false, .bool false, .int .u32 0, .int .u16 0, .int .u32 0, .int .u32 0, .int .u32 0, .int .u32 0, .int .u32 0, .int .u16 0, .int .u16 0, .slice none 0 0, .slice none 0 0, .slice none 0 0, .slice none 0 0, .slice none 0 0] (Blk.new w3 zch 31)
    have F4 : Fr nothing w3 ((w3.alloc (.cells zch 31)).setRow w3.heap.size #[.int .u8 (at1 bs 0), .bool false, .bool false, .bool false, .bool false, .int .u32 0, .int .u16 0, .int .u32 0, .int .u32 0, .int .u32 0, .int .u32 0, .int .u32 0, .int .u16 0, .int .u16 0, .slice none 0 0, .slice none 0 0, .slice none 0 0, .slice none 0 0, .slice none 0 0]) := ((Fr.refl nothing w3).alloc _).trans (fr_row w3.heap.size #[.int .u8 (at1 bs 0), .bool false, .bool false, .bool false, .bool false, .int .u32 0, .int .u16 0, .int .u32 0, .int .u32 0, .int .u32 0, .int .u32 0, .int .u32 0, .int .u16 0, .int .u16 0, .slice none 0 0, .slice none 0 0, .slice none 0 0, .slice none 0 0, .slice none 0 0]) (fun k hk h => by have h9 : k = w3.heap.size := h; omega)
    have hgw := R3.choose_spec.1.lt
    have hwg : w.heap.size < w3.heap.size := bZ.lt
    generalize (w3.alloc (.cells zch 31)).setRow w3.heap.size #[.int .u8 (at1 bs 0), .bool false, .bool false, .bool false, .bool false, .int .u32 0, .int .u16 0, .int .u32 0, .int .u32 0, .int .u32 0, .int .u32 0, .int .u32 0, .int .u16 0, .int .u16 0, .slice none 0 0, .slice none 0 0, .slice none 0 0, .slice none 0 0, .slice none 0 0] = w4 at *
    replace bZ := bZ.fr F4 id
    have R4 := R3.fr F4 id (fun _ _ _ h => h)
    have B5 := Bl.trans B4 (Bl.of_fr F4 B4.size (fun k h => h.elim))
    generalize w3.heap.size = gC at *
    clear R3 B4 F4
    go_wp2_with fail
    refine (rd1_calls g _ _ bs 1 _ R4 HB.out).mono ?_
    rintro e w5 ⟨rfl, R5, f⟩
    replace bZ := bZ.fr f (fun h => by have h9 : w.heap.size = g := h; omega)
    replace bC := bC.fr f (fun h => by have h9 : gC = g := h; omega)
    have B6 := Bl.trans B5 (Bl.of_fr f B5.size (fun k h => by have h9 : k = g := h; omega))
    clear B5 f
    have B5 := B6
    clear B6
    clear R4
    have CN := rd2_calls g _ _ bs 2 _ R5 HB.out
    rw [HN.out] at CN
    have HCN := Lib.hid CN
    clear CN
    go_wp2_with fail
    refine (HCN.out).mono ?_
    rintro e w6 ⟨rfl, R6, f⟩
    replace bZ := bZ.fr f (fun h => by have h9 : w.heap.size = g := h; omega)
    replace bC := bC.fr f (fun h => by have h9 : gC = g := h; omega)
    have B6 := Bl.trans B5 (Bl.of_fr f B5.size (fun k h => by have h9 : k = g := h; omega))
    clear B5 f
    have B5 := B6
    clear B6
    clear R5 HCN
    rw [hb4] at R6
    go_wp2_with fail
    refine (good_calls g _ _ _ _ _ R6).mono ?_
    rintro e w7 ⟨rfl, hw7⟩
    rw [hw7]
    clear hw7 w7
    go_upto_region 6 with fail
    refine wp_region_lit ?_
    refine wpList_plain rfl (fun K hK => ?_)
    go_simp
    refine hK _ _ ?_
    clear hK K
    refine wpList_plain rfl (fun K hK => ?_)
    refine oper_store (cs0 := z19 0) (cs := zch) rfl rfl rfl bZ (by kernel_rfl) rfl (by simp [Value.oneCell']) ?_
    refine hK _ _ ?_
    clear hK K
    refine wpList_plain rfl (fun K hK => ?_)
    go_simp
    refine hK _ _ ?_
    clear hK K
    refine wpList_plain rfl (fun K hK => ?_)
    go_simp
    refine hK _ _ ?_
    clear hK K
    refine wpList_nil ?_
    have bQ := blk_row zch bZ
    have fQ := fr_row (w := w6) w.heap.size zch
    generalize World.setRow w6 w.heap.size zch = wz at *
    go_wp2
    (try simp only [Exit.inBlock, Exit.then])
    refine bodyPost_ret (results_blk3 rfl _ rfl bQ hup rfl (by kernel_rfl)) rfl ?_
    refine ⟨Bl.trans B5 (Bl.of_fr fQ B5.size (fun k h => by have h9 : k = w.heap.size := h; omega)), z19 0, ?_, ?_⟩
    · rw [gN_bad (by rw [HE.out]; decide), HE.out]; rfl
    · rw [gC_bad (by rw [HE.out]; decide)]; exact ckv_zero _ _ _ _
  have hd4 : decide ((N : Int) < 4) = false := decide_eq_false (by omega)
  have hn4' : 4 ≤ N := by omega
  have hal : all N ≤ N + 3 := by unfold all; omega
  by_cases h5 : bs.length < all N
  · have HE := Lib.hid (gE_3 h4 (by omega) (by rw [hgL]; exact h5))
    have hb5 : decide ((bs.drop 4).length + 4 < all N) = true := decide_eq_true (by rw [List.length_drop]; omega)
    clear hN hgL h5 hn4
    go_enter Try.func18, Try.ntmps18
    go_upto_region 1 with fail
    generalize w.alloc (.cells zch 31) = w1 at *
    go_wp2_with fail
    refine (new_calls lo hi _ bs w1 X1 (by omega)).mono ?_
    rintro e w2 ⟨g, m, rfl, hm1, hm2, R, B2⟩
    have B3 := Bl.trans B1 (Bl.low B2 B1.size)
    replace bZ := bZ.fr (Fr.of_below (S := nothing) B2) id
    have hgZ : g ≠ w.heap.size := by omega
    go_upto_region 2 with fail
    refine wp_region_lit ?_
    refine wpList_plain rfl (fun K hK => ?_)
    go_simp
    refine hK _ _ ?_
    clear hK K
    refine wpList_plain rfl (fun K hK => ?_)
    go_simp
    go_at_call 36
    refine (rd1_calls g _ _ bs 0 _ (by simpa using R) HB.out).mono ?_
    rintro e w3 ⟨rfl, R3, f3⟩
    simp only []
    refine hK _ _ ?_
    clear hK K
    replace bZ := bZ.fr f3 (fun h => by have h9 : w.heap.size = g := h; omega)
    have B4 := Bl.trans B3 (Bl.of_fr f3 B3.size (fun k h => by have h9 : k = g := h; omega))
    clear R B2 B3 f3
    refine wpList_plain rfl (fun K hK => ?_)
    go_simp
    refine hK _ _ ?_
    clear hK K
    refine wpList_plain rfl (fun K hK => ?_)
    go_simp
    refine hK _ _ ?_
    clear hK K
    refine wpList_plain rfl (fun K hK => ?_)
    refine oper_store (cs0 := zch) (cs := #[.int .u8 (at1 bs 0), .bool false, .bool false, .bool false, .bool false, .int .u32 0, .int .u16 0, .int .u32 0, .int .u32 0, .int .u32 0, .int .u32 0, .int .u32 0, .int .u16 0, .int .u16 0, .slice none 0 0, .slice none 0 0, .slice none 0 0, .slice none 0 0, .slice none 0 0]) rfl rfl rfl (Blk.new w3 zch 31) (by kernel_rfl) rfl (by simp [Value.oneCell']) ?_
    refine hK _ _ ?_
    clear hK K
    refine wpList_nil ?_
    have bC : Blk ((w3.alloc (.cells zch 31)).setRow w3.heap.size #[.int .u8 (at1 bs 0), .bool false, .bool false, .bool false, .bool false, .int .u32 0, .int .u16 0, .int .u32 0, .int .u32 0, .int .u32 0, .int .u32 0, .int .u32 0, .int .u16 0, .int .u16 0, .slice none 0 0, .slice none 0 0, .slice none 0 0, .slice none 0 0, .slice none 0 0]) w3.heap.size 31 (z19 (at1 bs 0)) := blk_row #[.int .u8 (at1 bs 0), .bool false, .bool false, .bool false, .bool false, .int .u32 0, .int .u16 0, .int .u32 0, .int .u32 0, .int .u32 0, .int .u32 0, .int .u32 0, .int .u16 0, .int .u16 0, .slice none 0 0, .slice none 0 0, .slice none 0 0, .slice none 0 0, .slice none 0 0] (Blk.new w3 zch 31)
    have F4 : Fr nothing w3 ((w3.alloc (.cells zch 31)).setRow w3.heap.size #[.int .u8 (at1 bs 0), .bool false, .bool false, .bool false, .bool false, .int .u32 0, .int .u16 0, .int .u32 0, .int .u32 0, .int .u32 0, .int .u32 0, .int .u32 0, .int .u16 0, .int .u16 0, .slice none 0 0, .slice none 0 0, .slice none 0 0, .slice none 0 0, .slice none 0 0]) := ((Fr.refl nothing w3).alloc _).trans (fr_row w3.heap.size #[.int .u8 (at1 bs 0), .bool false, .bool false, .bool false, .bool false, .int .u32 0, .int .u16 0, .int .u32 0, .int .u32 0, .int .u32 0, .int .u32 0, .int .u32 0, .int .u16 0, .int .u16 0, .slice none 0 0, .slice none 0 0, .slice none 0 0, .slice none 0 0, .slice none 0 0]) (fun k hk h => by have h9 : k = w3.heap.size := h; omega)
    have hgw := R3.choose_spec.1.lt
    have hwg : w.heap.size < w3.heap.size := bZ.lt
    generalize (w3.alloc (.cells zch 31)).setRow w3.heap.size #[.int .u8 (at1 bs 0), .bool false, .bool false, .bool false, .bool false, .int .u32 0, .int .u16 0, .int .u32 0, .int .u32 0, .int .u32 0, .int .u32 0, .int .u32 0, .int .u16 0, .int .u16 0, .slice none 0 0, .slice none 0 0, .slice none 0 0, .slice none 0 0, .slice none 0 0] = w4 at *
    replace bZ := bZ.fr F4 id
    have R4 := R3.fr F4 id (fun _ _ _ h => h)
    have B5 := Bl.trans B4 (Bl.of_fr F4 B4.size (fun k h => h.elim))
    generalize w3.heap.size = gC at *
    clear R3 B4 F4
    go_wp2_with fail
    refine (rd1_calls g _ _ bs 1 _ R4 HB.out).mono ?_
    rintro e w5 ⟨rfl, R5, f⟩
    replace bZ := bZ.fr f (fun h => by have h9 : w.heap.size = g := h; omega)
    replace bC := bC.fr f (fun h => by have h9 : gC = g := h; omega)
    have B6 := Bl.trans B5 (Bl.of_fr f B5.size (fun k h => by have h9 : k = g := h; omega))
    clear B5 f
    have B5 := B6
    clear B6
    clear R4
    have CN := rd2_calls g _ _ bs 2 _ R5 HB.out
    rw [HN.out] at CN
    have HCN := Lib.hid CN
    clear CN
    go_wp2_with fail
    refine (HCN.out).mono ?_
    rintro e w6 ⟨rfl, R6, f⟩
    replace bZ := bZ.fr f (fun h => by have h9 : w.heap.size = g := h; omega)
    replace bC := bC.fr f (fun h => by have h9 : gC = g := h; omega)
    have B6 := Bl.trans B5 (Bl.of_fr f B5.size (fun k h => by have h9 : k = g := h; omega))
    clear B5 f
    have B5 := B6
    clear B6
    clear R5 HCN
    rw [hb4] at R6
    go_wp2_with fail
    refine (good_calls g _ _ _ _ _ R6).mono ?_
    rintro e w7 ⟨rfl, hw7⟩
    rw [hw7]
    clear hw7 w7
    have hgw6 : g < w6.heap.size := R6.choose_spec.1.lt
    have R7 : Rdr w6 g w1.heap.size m (bs.drop 4) false := R6
    clear R6
    go_wp2_with fail
    refine (taken_calls g _ _ _ _ ((N : Int) - 4) _ R7).mono ?_
    rintro e w8 ⟨A1, k1, c1, rfl, hk1, -, o1, R8, f⟩
    replace bZ := bZ.fr f (fun h => by have h9 : w.heap.size = g := h; omega)
    replace bC := bC.fr f (fun h => by have h9 : gC = g := h; omega)
    have B6 := Bl.trans B5 (Bl.of_fr f B5.size (fun k h => by have h9 : k = g := h; omega))
    clear B5 f R7
    have B5 := B6
    clear B6
    have HK1 := Lib.hid hk1
    clear hk1
    go_wp2_with fail
    rw [show (-((N : Int) % 4) % 4) = ((all N - N : Nat) : Int) by unfold all; omega]
    obtain ⟨p, hp⟩ : ∃ p, p = all N - N := ⟨_, rfl⟩
    rw [← hp]
    refine (taken_calls g _ _ _ _ (p : Int) _ R8).mono ?_
    rintro e w9 ⟨A2, k2, c2, rfl, hk2, -, o2, R9, f⟩
    replace o1 := OwnB.fr o1 f (fun k h1 h2 => by have h3 : k = g := h2; have := OwnB.ge o1 k h1; omega)
    replace bZ := bZ.fr f (fun h => by have h9 : w.heap.size = g := h; omega)
    replace bC := bC.fr f (fun h => by have h9 : gC = g := h; omega)
    have B6 := Bl.trans B5 (Bl.of_fr f B5.size (fun k h => by have h9 : k = g := h; omega))
    have hsz89 := f.size
    clear B5 f R8
    have B5 := B6
    clear B6
    have HK2 := Lib.hid hk2
    clear hk2
    rw [rd_two hn4' hp, hb5] at R9
    go_wp2_with fail
    refine (good_calls g _ _ _ _ _ R9).mono ?_
    rintro e w10 ⟨rfl, hw10⟩
    rw [hw10]
    clear hw10 w10
    go_upto_region 10 with fail
    refine wp_region_lit ?_
    refine wpList_plain rfl (fun K hK => ?_)
    go_simp
    refine hK _ _ ?_
    clear hK K
    refine wpList_plain rfl (fun K hK => ?_)
    refine oper_store (cs0 := z19 0) (cs := zch) rfl rfl rfl bZ (by kernel_rfl) rfl (by simp [Value.oneCell']) ?_
    refine hK _ _ ?_
    clear hK K
    refine wpList_plain rfl (fun K hK => ?_)
    go_simp
    refine hK _ _ ?_
    clear hK K
    refine wpList_plain rfl (fun K hK => ?_)
    go_simp
    refine hK _ _ ?_
    clear hK K
    refine wpList_nil ?_
    have bQ := blk_row zch bZ
    have fQ := fr_row (w := w9) w.heap.size zch
    generalize World.setRow w9 w.heap.size zch = wz at *
    go_wp2
    (try simp only [Exit.inBlock, Exit.then])
    refine bodyPost_ret (results_blk3 rfl _ rfl bQ hup rfl (by kernel_rfl)) rfl ?_
    refine ⟨Bl.trans B5 (Bl.of_fr fQ B5.size (fun k h => by have h9 : k = w.heap.size := h; omega)), z19 0, ?_, ?_⟩
    · rw [gN_bad (by rw [HE.out]; decide), HE.out]; rfl
    · rw [gC_bad (by rw [HE.out]; decide)]; exact ckv_zero _ _ _ _
  have hb5 : decide ((bs.drop 4).length + 4 < all N) = false := decide_eq_false (by rw [List.length_drop]; omega)
  have h5' : all N ≤ bs.length := by omega
  obtain ⟨pad, hpd⟩ : ∃ x, (bs.take (all N)).drop N = x := ⟨_, rfl⟩
  obtain ⟨xs, hxs⟩ : ∃ x, (bs.take N).drop 4 = x := ⟨_, rfl⟩
  have HPD := Lib.hid hpd
  have HI := Lib.hid hxs
  have hgI : gI bs = xs := by unfold gI; rw [hgL]; exact hxs
  have hpl : pad.length ≤ 65535 := by rw [← hpd, List.length_drop, List.length_take]; omega
  have hxl : xs.length ≤ 65535 := by rw [← hxs, List.length_drop, List.length_take]; omega
  have hxb : IsB xs := by rw [← hxs]; exact isb_drop (isb_take HB.out _) _
  cases hpn : pad.any (fun x => x != 0) with
  | true =>
    have HE := Lib.hid (gE_4 (bs := bs) h4 (by omega) (by rw [hgL]; omega) (by rw [hgL, hpd]; exact hpn))
    clear hN hgL h5 hn4 hpd hxs hgI
    go_enter Try.func18, Try.ntmps18
    go_upto_region 1 with fail
    generalize w.alloc (.cells zch 31) = w1 at *
    go_wp2_with fail
    refine (new_calls lo hi _ bs w1 X1 (by omega)).mono ?_
    rintro e w2 ⟨g, m, rfl, hm1, hm2, R, B2⟩
    have B3 := Bl.trans B1 (Bl.low B2 B1.size)
    replace bZ := bZ.fr (Fr.of_below (S := nothing) B2) id
    have hgZ : g ≠ w.heap.size := by omega
    go_upto_region 2 with fail
    refine wp_region_lit ?_
    refine wpList_plain rfl (fun K hK => ?_)
    go_simp
    refine hK _ _ ?_
    clear hK K
    refine wpList_plain rfl (fun K hK => ?_)
    go_simp
    go_at_call 36
    refine (rd1_calls g _ _ bs 0 _ (by simpa using R) HB.out).mono ?_
    rintro e w3 ⟨rfl, R3, f3⟩
    simp only []
    refine hK _ _ ?_
    clear hK K
    replace bZ := bZ.fr f3 (fun h => by have h9 : w.heap.size = g := h; omega)
    have B4 := Bl.trans B3 (Bl.of_fr f3 B3.size (fun k h => by have h9 : k = g := h; omega))
    clear R B2 B3 f3
    refine wpList_plain rfl (fun K hK => ?_)
    go_simp
    refine hK _ _ ?_
    clear hK K
    refine wpList_plain rfl (fun K hK => ?_)
    go_simp
    refine hK _ _ ?_
    clear hK K
    refine wpList_plain rfl (fun K hK => ?_)
    refine oper_store (cs0 := zch) (cs := #[.int .u8 (at1 bs 0), .bool false, .bool false, .bool false, .bool false, .int .u32 0, .int .u16 0, .int .u32 0, .int .u32 0, .int .u32 0, .int .u32 0, .int .u32 0, .int .u16 0, .int .u16 0, .slice none 0 0, .slice none 0 0, .slice none 0 0, .slice none 0 0, .slice none 0 0]) rfl rfl rfl (Blk.new w3 zch 31) (by kernel_rfl) rfl (by simp [Value.oneCell']) ?_
    refine hK _ _ ?_
    clear hK K
    refine wpList_nil ?_
    have bC : Blk ((w3.alloc (.cells zch 31)).setRow w3.heap.size #[.int .u8 (at1 bs 0), .bool false, .bool false, .bool false, .bool false, .int .u32 0, .int .u16 0, .int .u32 0, .int .u32 0, .int .u32 0, .int .u32 0, .int .u32 0, .int .u16 0, .int .u16 0, .slice none 0 0, .slice none 0 0, .slice none 0 0, .slice none 0 0, .slice none 0 0]) w3.heap.size 31 (z19 (at1 bs 0)) := blk_row #[.int .u8 (at1 bs 0), .bool false, .bool false, .bool false, .bool false, .int .u32 0, .int .u16 0, .int .u32 0, .int .u32 0, .int .u32 0, .int .u32 0, .int .u32 0, .int .u16 0, .int .u16 0, .slice none 0 0, .slice none 0 0, .slice none 0 0, .slice none 0 0, .slice none 0 0] (Blk.new w3 zch 31)
    have F4 : Fr nothing w3 ((w3.alloc (.cells zch 31)).setRow w3.heap.size #[.int .u8 (at1 bs 0), .bool false, .bool false, .bool false, .bool false, .int .u32 0, .int .u16 0, .int .u32 0, .int .u32 0, .int .u32 0, .int .u32 0, .int .u32 0, .int .u16 0, .int .u16 0, .slice none 0 0, .slice none 0 0, .slice none 0 0, .slice none 0 0, .slice none 0 0]) := ((Fr.refl nothing w3).alloc _).trans (fr_row w3.heap.size #[.int .u8 (at1 bs 0), .bool false, .bool false, .bool false, .bool false, .int .u32 0, .int .u16 0, .int .u32 0, .int .u32 0, .int .u32 0, .int .u32 0, .int .u32 0, .int .u16 0, .int .u16 0, .slice none 0 0, .slice none 0 0, .slice none 0 0, .slice none 0 0, .slice none 0 0]) (fun k hk h => by have h9 : k = w3.heap.size := h; omega)
    have hgw := R3.choose_spec.1.lt
    have hwg : w.heap.size < w3.heap.size := bZ.lt
    generalize (w3.alloc (.cells zch 31)).setRow w3.heap.size #[.int .u8 (at1 bs 0), .bool false, .bool false, .bool false, .bool false, .int .u32 0, .int .u16 0, .int .u32 0, .int .u32 0, .int .u32 0, .int .u32 0, .int .u32 0, .int .u16 0, .int .u16 0, .slice none 0 0, .slice none 0 0, .slice none 0 0, .slice none 0 0, .slice none 0 0] = w4 at *
    replace bZ := bZ.fr F4 id
    have R4 := R3.fr F4 id (fun _ _ _ h => h)
    have B5 := Bl.trans B4 (Bl.of_fr F4 B4.size (fun k h => h.elim))
    generalize w3.heap.size = gC at *
    clear R3 B4 F4
    go_wp2_with fail
    refine (rd1_calls g _ _ bs 1 _ R4 HB.out).mono ?_
    rintro e w5 ⟨rfl, R5, f⟩
    replace bZ := bZ.fr f (fun h => by have h9 : w.heap.size = g := h; omega)
    replace bC := bC.fr f (fun h => by have h9 : gC = g := h; omega)
    have B6 := Bl.trans B5 (Bl.of_fr f B5.size (fun k h => by have h9 : k = g := h; omega))
    clear B5 f
    have B5 := B6
    clear B6
    clear R4
    have CN := rd2_calls g _ _ bs 2 _ R5 HB.out
    rw [HN.out] at CN
    have HCN := Lib.hid CN
    clear CN
    go_wp2_with fail
    refine (HCN.out).mono ?_
    rintro e w6 ⟨rfl, R6, f⟩
    replace bZ := bZ.fr f (fun h => by have h9 : w.heap.size = g := h; omega)
    replace bC := bC.fr f (fun h => by have h9 : gC = g := h; omega)
    have B6 := Bl.trans B5 (Bl.of_fr f B5.size (fun k h => by have h9 : k = g := h; omega))
    clear B5 f
    have B5 := B6
    clear B6
    clear R5 HCN
    rw [hb4] at R6
    go_wp2_with fail
    refine (good_calls g _ _ _ _ _ R6).mono ?_
    rintro e w7 ⟨rfl, hw7⟩
    rw [hw7]
    clear hw7 w7
    have hgw6 : g < w6.heap.size := R6.choose_spec.1.lt
    have R7 : Rdr w6 g w1.heap.size m (bs.drop 4) false := R6
    clear R6
    go_wp2_with fail
    refine (taken_calls g _ _ _ _ ((N : Int) - 4) _ R7).mono ?_
    rintro e w8 ⟨A1, k1, c1, rfl, hk1, -, o1, R8, f⟩
    replace bZ := bZ.fr f (fun h => by have h9 : w.heap.size = g := h; omega)
    replace bC := bC.fr f (fun h => by have h9 : gC = g := h; omega)
    have B6 := Bl.trans B5 (Bl.of_fr f B5.size (fun k h => by have h9 : k = g := h; omega))
    clear B5 f R7
    have B5 := B6
    clear B6
    have HK1 := Lib.hid hk1
    clear hk1
    go_wp2_with fail
    rw [show (-((N : Int) % 4) % 4) = ((all N - N : Nat) : Int) by unfold all; omega]
    obtain ⟨p, hp⟩ : ∃ p, p = all N - N := ⟨_, rfl⟩
    rw [← hp]
    refine (taken_calls g _ _ _ _ (p : Int) _ R8).mono ?_
    rintro e w9 ⟨A2, k2, c2, rfl, hk2, -, o2, R9, f⟩
    replace o1 := OwnB.fr o1 f (fun k h1 h2 => by have h3 : k = g := h2; have := OwnB.ge o1 k h1; omega)
    replace bZ := bZ.fr f (fun h => by have h9 : w.heap.size = g := h; omega)
    replace bC := bC.fr f (fun h => by have h9 : gC = g := h; omega)
    have B6 := Bl.trans B5 (Bl.of_fr f B5.size (fun k h => by have h9 : k = g := h; omega))
    have hsz89 := f.size
    clear B5 f R8
    have B5 := B6
    clear B6
    have HK2 := Lib.hid hk2
    clear hk2
    rw [rd_two hn4' hp, hb5] at R9
    go_wp2_with fail
    refine (good_calls g _ _ _ _ _ R9).mono ?_
    rintro e w10 ⟨rfl, hw10⟩
    rw [hw10]
    clear hw10 w10
    obtain ⟨t1, t2, t3⟩ := rd_three hn4' hp h5'
    rw [t1] at o1 HK1
    rw [t2] at o2 HK2
    rw [t3] at R9
    rw [HI.out] at o1 HK1
    rw [HPD.out] at o2 HK2
    have rB : RdB w9 w8.heap.size w9.heap.size A2 pad := by
      obtain ⟨A', cc, e, q1, q2, q3, q4⟩ := SlB.of_own o2
      injection e with e1 _ _
      subst e1
      exact q4
    have e2 : k2 = pad.length := HK2.out
    subst e2
    have e1 : k1 = xs.length := HK1.out
    subst e1
    clear t1 t2 t3 HK1 HK2 o2
    have CH := has2_calls _ _ A2 c2 pad w9 rB (by omega)
    rw [hpn] at CH
    have HCH := Lib.hid CH
    clear CH rB
    go_wp2_with fail
    refine HCH.out.mono ?_
    rintro e w11 ⟨rfl, hw11⟩
    rw [hw11]
    clear hw11 w11 HCH
    go_upto_region 12 with fail
    refine wp_region_lit ?_
    refine wpList_plain rfl (fun K hK => ?_)
    go_simp
    refine hK _ _ ?_
    clear hK K
    refine wpList_plain rfl (fun K hK => ?_)
    refine oper_store (cs0 := z19 0) (cs := zch) rfl rfl rfl bZ (by kernel_rfl) rfl (by simp [Value.oneCell']) ?_
    refine hK _ _ ?_
    clear hK K
    refine wpList_plain rfl (fun K hK => ?_)
    go_simp
    refine hK _ _ ?_
    clear hK K
    refine wpList_plain rfl (fun K hK => ?_)
    go_simp
    refine hK _ _ ?_
    clear hK K
    refine wpList_nil ?_
    have bQ := blk_row zch bZ
    have fQ := fr_row (w := w9) w.heap.size zch
    generalize World.setRow w9 w.heap.size zch = wz at *
    go_wp2
    (try simp only [Exit.inBlock, Exit.then])
    refine bodyPost_ret (results_blk3 rfl _ rfl bQ hup rfl (by kernel_rfl)) rfl ?_
    refine ⟨Bl.trans B5 (Bl.of_fr fQ B5.size (fun k h => by have h9 : k = w.heap.size := h; omega)), z19 0, ?_, ?_⟩
    · rw [gN_bad (by rw [HE.out]; decide), HE.out]; rfl
    · rw [gC_bad (by rw [HE.out]; decide)]; exact ckv_zero _ _ _ _
  | false =>
    have hany : ((bs.take (all (gL bs))).drop (gL bs)).any (fun x => x != 0) = false := by rw [hgL, hpd]; exact hpn
    cases hkn : kn (at1 bs 0) with
    | false =>
      have HE := Lib.hid (gE_5 (bs := bs) h4 (by omega) (by rw [hgL]; omega) hany hkn)
      clear hN hgL h5 hn4 hpd hxs hgI hany
      go_enter Try.func18, Try.ntmps18
      go_upto_region 1 with fail
      generalize w.alloc (.cells zch 31) = w1 at *
      go_wp2_with fail
      refine (new_calls lo hi _ bs w1 X1 (by omega)).mono ?_
      rintro e w2 ⟨g, m, rfl, hm1, hm2, R, B2⟩
      have B3 := Bl.trans B1 (Bl.low B2 B1.size)
      replace bZ := bZ.fr (Fr.of_below (S := nothing) B2) id
      have hgZ : g ≠ w.heap.size := by omega
      go_upto_region 2 with fail
      refine wp_region_lit ?_
      refine wpList_plain rfl (fun K hK => ?_)
      go_simp
      refine hK _ _ ?_
      clear hK K
      refine wpList_plain rfl (fun K hK => ?_)
      go_simp
      go_at_call 36
      refine (rd1_calls g _ _ bs 0 _ (by simpa using R) HB.out).mono ?_
      rintro e w3 ⟨rfl, R3, f3⟩
      simp only []
      refine hK _ _ ?_
      clear hK K
      replace bZ := bZ.fr f3 (fun h => by have h9 : w.heap.size = g := h; omega)
      have B4 := Bl.trans B3 (Bl.of_fr f3 B3.size (fun k h => by have h9 : k = g := h; omega))
      clear R B2 B3 f3
      refine wpList_plain rfl (fun K hK => ?_)
      go_simp
      refine hK _ _ ?_
      clear hK K
      refine wpList_plain rfl (fun K hK => ?_)
      go_simp
      refine hK _ _ ?_
      clear hK K
      refine wpList_plain rfl (fun K hK => ?_)
      refine oper_store (cs0 := zch) (cs := #[.int .u8 (at1 bs 0), .bool false, .bool false, .bool false, .bool false, .int .u32 0, .int .u16 0, .int .u32 0, .int .u32 0, .int .u32 0, .int .u32 0, .int .u32 0, .int .u16 0, .int .u16 0, .slice none 0 0, .slice none 0 0, .slice none 0 0, .slice none 0 0, .slice none 0 0]) rfl rfl rfl (Blk.new w3 zch 31) (by kernel_rfl) rfl (by simp [Value.oneCell']) ?_
      refine hK _ _ ?_
      clear hK K
      refine wpList_nil ?_
      have bC : Blk ((w3.alloc (.cells zch 31)).setRow w3.heap.size #[.int .u8 (at1 bs 0), .bool false, .bool false, .bool false, .bool false, .int .u32 0, .int .u16 0, .int .u32 0, .int .u32 0, .int .u32 0, .int .u32 0, .int .u32 0, .int .u16 0, .int .u16 0, .slice none 0 0, .slice none 0 0, .slice none 0 0, .slice none 0 0, .slice none 0 0]) w3.heap.size 31 (z19 (at1 bs 0)) := blk_row #[.int .u8 (at1 bs 0), .bool false, .bool false, .bool false, .bool false, .int .u32 0, .int .u16 0, .int .u32 0, .int .u32 0, .int .u32 0, .int .u32 0, .int .u32 0, .int .u16 0, .int .u16 0, .slice none 0 0, .slice none 0 0, .slice none 0 0, .slice none 0 0, .slice none 0 0] (Blk.new w3 zch 31)
      have F4 : Fr nothing w3 ((w3.alloc (.cells zch 31)).setRow w3.heap.size #[.int .u8 (at1 bs 0), .bool false, .bool false, .bool false, .bool false, .int .u32 0, .int .u16 0, .int .u32 0, .int .u32 0, .int .u32 0, .int .u32 0, .int .u32 0, .int .u16 0, .int .u16 0, .slice none 0 0, .slice none 0 0, .slice none 0 0, .slice none 0 0, .slice none 0 0]) := ((Fr.refl nothing w3).alloc _).trans (fr_row w3.heap.size #[.int .u8 (at1 bs 0), .bool false, .bool false, .bool false, .bool false, .int .u32 0, .int .u16 0, .int .u32 0, .int .u32 0, .int .u32 0, .int .u32 0, .int .u32 0, .int .u16 0, .int .u16 0, .slice none 0 0, .slice none 0 0, .slice none 0 0, .slice none 0 0, .slice none 0 0]) (fun k hk h => by have h9 : k = w3.heap.size := h; omega)
      have hgw := R3.choose_spec.1.lt
      have hwg : w.heap.size < w3.heap.size := bZ.lt
      generalize (w3.alloc (.cells zch 31)).setRow w3.heap.size #[.int .u8 (at1 bs 0), .bool false, .bool false, .bool false, .bool false, .int .u32 0, .int .u16 0, .int .u32 0, .int .u32 0, .int .u32 0, .int .u32 0, .int .u32 0, .int .u16 0, .int .u16 0, .slice none 0 0, .slice none 0 0, .slice none 0 0, .slice none 0 0, .slice none 0 0] = w4 at *
      replace bZ := bZ.fr F4 id
      have R4 := R3.fr F4 id (fun _ _ _ h => h)
      have B5 := Bl.trans B4 (Bl.of_fr F4 B4.size (fun k h => h.elim))
      generalize w3.heap.size = gC at *
      clear R3 B4 F4
      go_wp2_with fail
      refine (rd1_calls g _ _ bs 1 _ R4 HB.out).mono ?_
      rintro e w5 ⟨rfl, R5, f⟩
      replace bZ := bZ.fr f (fun h => by have h9 : w.heap.size = g := h; omega)
      replace bC := bC.fr f (fun h => by have h9 : gC = g := h; omega)
      have B6 := Bl.trans B5 (Bl.of_fr f B5.size (fun k h => by have h9 : k = g := h; omega))
      clear B5 f
      have B5 := B6
      clear B6
      clear R4
      have CN := rd2_calls g _ _ bs 2 _ R5 HB.out
      rw [HN.out] at CN
      have HCN := Lib.hid CN
      clear CN
      go_wp2_with fail
      refine (HCN.out).mono ?_
      rintro e w6 ⟨rfl, R6, f⟩
      replace bZ := bZ.fr f (fun h => by have h9 : w.heap.size = g := h; omega)
      replace bC := bC.fr f (fun h => by have h9 : gC = g := h; omega)
      have B6 := Bl.trans B5 (Bl.of_fr f B5.size (fun k h => by have h9 : k = g := h; omega))
      clear B5 f
      have B5 := B6
      clear B6
      clear R5 HCN
      rw [hb4] at R6
      go_wp2_with fail
      refine (good_calls g _ _ _ _ _ R6).mono ?_
      rintro e w7 ⟨rfl, hw7⟩
      rw [hw7]
      clear hw7 w7
      have hgw6 : g < w6.heap.size := R6.choose_spec.1.lt
      have R7 : Rdr w6 g w1.heap.size m (bs.drop 4) false := R6
      clear R6
      go_wp2_with fail
      refine (taken_calls g _ _ _ _ ((N : Int) - 4) _ R7).mono ?_
      rintro e w8 ⟨A1, k1, c1, rfl, hk1, -, o1, R8, f⟩
      replace bZ := bZ.fr f (fun h => by have h9 : w.heap.size = g := h; omega)
      replace bC := bC.fr f (fun h => by have h9 : gC = g := h; omega)
      have B6 := Bl.trans B5 (Bl.of_fr f B5.size (fun k h => by have h9 : k = g := h; omega))
      clear B5 f R7
      have B5 := B6
      clear B6
      have HK1 := Lib.hid hk1
      clear hk1
      go_wp2_with fail
      rw [show (-((N : Int) % 4) % 4) = ((all N - N : Nat) : Int) by unfold all; omega]
      obtain ⟨p, hp⟩ : ∃ p, p = all N - N := ⟨_, rfl⟩
      rw [← hp]
      refine (taken_calls g _ _ _ _ (p : Int) _ R8).mono ?_
      rintro e w9 ⟨A2, k2, c2, rfl, hk2, -, o2, R9, f⟩
      replace o1 := OwnB.fr o1 f (fun k h1 h2 => by have h3 : k = g := h2; have := OwnB.ge o1 k h1; omega)
      replace bZ := bZ.fr f (fun h => by have h9 : w.heap.size = g := h; omega)
      replace bC := bC.fr f (fun h => by have h9 : gC = g := h; omega)
      have B6 := Bl.trans B5 (Bl.of_fr f B5.size (fun k h => by have h9 : k = g := h; omega))
      have hsz89 := f.size
      clear B5 f R8
      have B5 := B6
      clear B6
      have HK2 := Lib.hid hk2
      clear hk2
      rw [rd_two hn4' hp, hb5] at R9
      go_wp2_with fail
      refine (good_calls g _ _ _ _ _ R9).mono ?_
      rintro e w10 ⟨rfl, hw10⟩
      rw [hw10]
      clear hw10 w10
      obtain ⟨t1, t2, t3⟩ := rd_three hn4' hp h5'
      rw [t1] at o1 HK1
      rw [t2] at o2 HK2
      rw [t3] at R9
      rw [HI.out] at o1 HK1
      rw [HPD.out] at o2 HK2
      have rB : RdB w9 w8.heap.size w9.heap.size A2 pad := by
        obtain ⟨A', cc, e, q1, q2, q3, q4⟩ := SlB.of_own o2
        injection e with e1 _ _
        subst e1
        exact q4
      have e2 : k2 = pad.length := HK2.out
      subst e2
      have e1 : k1 = xs.length := HK1.out
      subst e1
      clear t1 t2 t3 HK1 HK2 o2
      have CH := has2_calls _ _ A2 c2 pad w9 rB (by omega)
      rw [hpn] at CH
      have HCH := Lib.hid CH
      clear CH rB
      go_wp2_with fail
      refine HCH.out.mono ?_
      rintro e w11 ⟨rfl, hw11⟩
      rw [hw11]
      clear hw11 w11 HCH
      have cc : w9.cell? ⟨gC, 0, none⟩ = some (.int .u8 (at1 bs 0)) := bC.cell 0
      have CK := known_calls (at1 bs 0) w9
      rw [hkn] at CK
      have HCK := Lib.hid CK
      clear CK
      go_wp2_with fail
      refine HCK.out.mono ?_
      rintro e w12 ⟨rfl, hw12⟩
      rw [hw12]
      clear hw12 w12 HCK
      go_upto_region 14 with fail
      refine wp_region_lit ?_
      refine wpList_plain rfl (fun K hK => ?_)
      go_simp
      refine hK _ _ ?_
      clear hK K
      refine wpList_plain rfl (fun K hK => ?_)
      refine oper_store (cs0 := z19 0) (cs := zch) rfl rfl rfl bZ (by kernel_rfl) rfl (by simp [Value.oneCell']) ?_
      refine hK _ _ ?_
      clear hK K
      refine wpList_plain rfl (fun K hK => ?_)
      go_simp
      refine hK _ _ ?_
      clear hK K
      refine wpList_plain rfl (fun K hK => ?_)
      go_simp
      refine hK _ _ ?_
      clear hK K
      refine wpList_nil ?_
      have bQ := blk_row zch bZ
      have fQ := fr_row (w := w9) w.heap.size zch
      generalize World.setRow w9 w.heap.size zch = wz at *
      go_wp2
      (try simp only [Exit.inBlock, Exit.then])
      refine bodyPost_ret (results_blk3 rfl _ rfl bQ hup rfl (by kernel_rfl)) rfl ?_
      refine ⟨Bl.trans B5 (Bl.of_fr fQ B5.size (fun k h => by have h9 : k = w.heap.size := h; omega)), z19 0, ?_, ?_⟩
      · rw [gN_bad (by rw [HE.out]; decide), HE.out]; rfl
      · rw [gC_bad (by rw [HE.out]; decide)]; exact ckv_zero _ _ _ _
    | true =>
      have HE6 := Lib.hid (gE_6 (bs := bs) h4 (by omega) (by rw [hgL]; omega) hany hkn)
      rw [hgI] at HE6
      have HGI := Lib.hid hgI
      have HGL := Lib.hid hgL
      clear hN hgL h5 hn4 hpd hxs hgI hany
      cases hok : rOk (at1 bs 0) (at1 bs 1) xs with
      | false =>
        have HE := Lib.hid (show gE bs = 42 by rw [HE6.out, hok]; rfl)
        go_enter Try.func18, Try.ntmps18
        go_upto_region 1 with fail
        generalize w.alloc (.cells zch 31) = w1 at *
        go_wp2_with fail
        refine (new_calls lo hi _ bs w1 X1 (by omega)).mono ?_
        rintro e w2 ⟨g, m, rfl, hm1, hm2, R, B2⟩
        have B3 := Bl.trans B1 (Bl.low B2 B1.size)
        replace bZ := bZ.fr (Fr.of_below (S := nothing) B2) id
        have hgZ : g ≠ w.heap.size := by omega
        go_upto_region 2 with fail
        refine wp_region_lit ?_
        refine wpList_plain rfl (fun K hK => ?_)
        go_simp
        refine hK _ _ ?_
        clear hK K
        refine wpList_plain rfl (fun K hK => ?_)
        go_simp
        go_at_call 36
        refine (rd1_calls g _ _ bs 0 _ (by simpa using R) HB.out).mono ?_
        rintro e w3 ⟨rfl, R3, f3⟩
        simp only []
        refine hK _ _ ?_
        clear hK K
        replace bZ := bZ.fr f3 (fun h => by have h9 : w.heap.size = g := h; omega)
        have B4 := Bl.trans B3 (Bl.of_fr f3 B3.size (fun k h => by have h9 : k = g := h; omega))
        clear R B2 B3 f3
        refine wpList_plain rfl (fun K hK => ?_)
        go_simp
        refine hK _ _ ?_
        clear hK K
        refine wpList_plain rfl (fun K hK => ?_)
        go_simp
        refine hK _ _ ?_
        clear hK K
        refine wpList_plain rfl (fun K hK => ?_)
        refine oper_store (cs0 := zch) (cs := #[.int .u8 (at1 bs 0), .bool false, .bool false, .bool false, .bool false, .int .u32 0, .int .u16 0, .int .u32 0, .int .u32 0, .int .u32 0, .int .u32 0, .int .u32 0, .int .u16 0, .int .u16 0, .slice none 0 0, .slice none 0 0, .slice none 0 0, .slice none 0 0, .slice none 0 0]) rfl rfl rfl (Blk.new w3 zch 31) (by kernel_rfl) rfl (by simp [Value.oneCell']) ?_
        refine hK _ _ ?_
        clear hK K
        refine wpList_nil ?_
        have bC : Blk ((w3.alloc (.cells zch 31)).setRow w3.heap.size #[.int .u8 (at1 bs 0), .bool false, .bool false, .bool false, .bool false, .int .u32 0, .int .u16 0, .int .u32 0, .int .u32 0, .int .u32 0, .int .u32 0, .int .u32 0, .int .u16 0, .int .u16 0, .slice none 0 0, .slice none 0 0, .slice none 0 0, .slice none 0 0, .slice none 0 0]) w3.heap.size 31 (z19 (at1 bs 0)) := blk_row #[.int .u8 (at1 bs 0), .bool false, .bool false, .bool false, .bool false, .int .u32 0, .int .u16 0, .int .u32 0, .int .u32 0, .int .u32 0, .int .u32 0, .int .u32 0, .int .u16 0, .int .u16 0, .slice none 0 0, .slice none 0 0, .slice none 0 0, .slice none 0 0, .slice none 0 0] (Blk.new w3 zch 31)
        have F4 : Fr nothing w3 ((w3.alloc (.cells zch 31)).setRow w3.heap.size #[.int .u8 (at1 bs 0), .bool false, .bool false, .bool false, .bool false, .int .u32 0, .int .u16 0, .int .u32 0, .int .u32 0, .int .u32 0, .int .u32 0, .int .u32 0, .int .u16 0, .int .u16 0, .slice none 0 0, .slice none 0 0, .slice none 0 0, .slice none 0 0, .slice none 0 0]) := ((Fr.refl nothing w3).alloc _).trans (fr_row w3.heap.size #[.int .u8 (at1 bs 0), .bool false, .bool false, .bool false, .bool false, .int .u32 0, .int .u16 0, .int .u32 0, .int .u32 0, .int .u32 0, .int .u32 0, .int .u32 0, .int .u16 0, .int .u16 0, .slice none 0 0, .slice none 0 0, .slice none 0 0, .slice none 0 0, .slice none 0 0]) (fun k hk h => by have h9 : k = w3.heap.size := h; omega)
        have hgw := R3.choose_spec.1.lt
        have hwg : w.heap.size < w3.heap.size := bZ.lt
        generalize (w3.alloc (.cells zch 31)).setRow w3.heap.size #[.int .u8 (at1 bs 0), .bool false, .bool false, .bool false, .bool false, .int .u32 0, .int .u16 0, .int .u32 0, .int .u32 0, .int .u32 0, .int .u32 0, .int .u32 0, .int .u16 0, .int .u16 0, .slice none 0 0, .slice none 0 0, .slice none 0 0, .slice none 0 0, .slice none 0 0] = w4 at *
        replace bZ := bZ.fr F4 id
        have R4 := R3.fr F4 id (fun _ _ _ h => h)
        have B5 := Bl.trans B4 (Bl.of_fr F4 B4.size (fun k h => h.elim))
        generalize w3.heap.size = gC at *
        clear R3 B4 F4
        go_wp2_with fail
        refine (rd1_calls g _ _ bs 1 _ R4 HB.out).mono ?_
        rintro e w5 ⟨rfl, R5, f⟩
        replace bZ := bZ.fr f (fun h => by have h9 : w.heap.size = g := h; omega)
        replace bC := bC.fr f (fun h => by have h9 : gC = g := h; omega)
        have B6 := Bl.trans B5 (Bl.of_fr f B5.size (fun k h => by have h9 : k = g := h; omega))
        clear B5 f
        have B5 := B6
        clear B6
        clear R4
        have CN := rd2_calls g _ _ bs 2 _ R5 HB.out
        rw [HN.out] at CN
        have HCN := Lib.hid CN
        clear CN
        go_wp2_with fail
        refine (HCN.out).mono ?_
        rintro e w6 ⟨rfl, R6, f⟩
        replace bZ := bZ.fr f (fun h => by have h9 : w.heap.size = g := h; omega)
        replace bC := bC.fr f (fun h => by have h9 : gC = g := h; omega)
        have B6 := Bl.trans B5 (Bl.of_fr f B5.size (fun k h => by have h9 : k = g := h; omega))
        clear B5 f
        have B5 := B6
        clear B6
        clear R5 HCN
        rw [hb4] at R6
        go_wp2_with fail
        refine (good_calls g _ _ _ _ _ R6).mono ?_
        rintro e w7 ⟨rfl, hw7⟩
        rw [hw7]
        clear hw7 w7
        have hC9 := Lib.hid (show gC < w6.heap.size from bC.lt)
        have hgw6 : g < w6.heap.size := R6.choose_spec.1.lt
        have R7 : Rdr w6 g w1.heap.size m (bs.drop 4) false := R6
        clear R6
        go_wp2_with fail
        refine (taken_calls g _ _ _ _ ((N : Int) - 4) _ R7).mono ?_
        rintro e w8 ⟨A1, k1, c1, rfl, hk1, -, o1, R8, f⟩
        replace bZ := bZ.fr f (fun h => by have h9 : w.heap.size = g := h; omega)
        replace bC := bC.fr f (fun h => by have h9 : gC = g := h; omega)
        have B6 := Bl.trans B5 (Bl.of_fr f B5.size (fun k h => by have h9 : k = g := h; omega))
        clear B5 f R7
        have B5 := B6
        clear B6
        have HK1 := Lib.hid hk1
        clear hk1
        go_wp2_with fail
        rw [show (-((N : Int) % 4) % 4) = ((all N - N : Nat) : Int) by unfold all; omega]
        obtain ⟨p, hp⟩ : ∃ p, p = all N - N := ⟨_, rfl⟩
        rw [← hp]
        refine (taken_calls g _ _ _ _ (p : Int) _ R8).mono ?_
        rintro e w9 ⟨A2, k2, c2, rfl, hk2, -, o2, R9, f⟩
        replace o1 := OwnB.fr o1 f (fun k h1 h2 => by have h3 : k = g := h2; have := OwnB.ge o1 k h1; omega)
        replace bZ := bZ.fr f (fun h => by have h9 : w.heap.size = g := h; omega)
        replace bC := bC.fr f (fun h => by have h9 : gC = g := h; omega)
        have B6 := Bl.trans B5 (Bl.of_fr f B5.size (fun k h => by have h9 : k = g := h; omega))
        have hsz89 := f.size
        clear B5 f R8
        have B5 := B6
        clear B6
        have HK2 := Lib.hid hk2
        clear hk2
        rw [rd_two hn4' hp, hb5] at R9
        go_wp2_with fail
        refine (good_calls g _ _ _ _ _ R9).mono ?_
        rintro e w10 ⟨rfl, hw10⟩
        rw [hw10]
        clear hw10 w10
        replace hC9 := Lib.hid (show gC < w9.heap.size from bC.lt)
        obtain ⟨t1, t2, t3⟩ := rd_three hn4' hp h5'
        rw [t1] at o1 HK1
        rw [t2] at o2 HK2
        rw [t3] at R9
        rw [HI.out] at o1 HK1
        rw [HPD.out] at o2 HK2
        have rB : RdB w9 w8.heap.size w9.heap.size A2 pad := by
          obtain ⟨A', cc, e, q1, q2, q3, q4⟩ := SlB.of_own o2
          injection e with e1 _ _
          subst e1
          exact q4
        have e2 : k2 = pad.length := HK2.out
        subst e2
        have e1 : k1 = xs.length := HK1.out
        subst e1
        clear t1 t2 t3 HK1 HK2 o2
        have CH := has2_calls _ _ A2 c2 pad w9 rB (by omega)
        rw [hpn] at CH
        have HCH := Lib.hid CH
        clear CH rB
        go_wp2_with fail
        refine HCH.out.mono ?_
        rintro e w11 ⟨rfl, hw11⟩
        rw [hw11]
        clear hw11 w11 HCH
        have cc : w9.cell? ⟨gC, 0, none⟩ = some (.int .u8 (at1 bs 0)) := bC.cell 0
        have CK := known_calls (at1 bs 0) w9
        rw [hkn] at CK
        have HCK := Lib.hid CK
        clear CK
        go_wp2_with fail
        refine HCK.out.mono ?_
        rintro e w12 ⟨rfl, hw12⟩
        rw [hw12]
        clear hw12 w12 HCK
        go_wp2_with fail
        refine (new_calls _ _ _ xs w9 (SlB.of_own o1) (by omega)).mono ?_
        rintro e w13 ⟨g2, m2, rfl, hn1, hn2, R2, B13⟩
        replace bZ := bZ.fr (Fr.of_below (S := nothing) B13) id
        replace bC := bC.fr (Fr.of_below (S := nothing) B13) id
        replace R9 := R9.fr (Fr.of_below (S := nothing) B13) id (fun _ _ _ h => h)
        have B6 := Bl.trans B5 (Bl.low B13 B5.size)
        clear B5 o1
        have B5 := B6
        clear B6
        have hgC9 : gC < w9.heap.size := by have h1 := bC.lt; have h2 := hC9.out; omega
        have hg9 : g < w9.heap.size := by omega
        go_upto_region 16 with fail
        have bX := Blk.new w13 #[.pointer (some ⟨g2, 0, none⟩), .bool false] 89
        have F14 : Fr nothing w13 (w13.alloc (.cells #[.pointer (some ⟨g2, 0, none⟩), .bool false] 89)) := (Fr.refl nothing w13).alloc _
        have hs14 : (w13.alloc (.cells #[.pointer (some ⟨g2, 0, none⟩), .bool false] 89)).heap.size = w13.heap.size + 1 := by simp
        have hg2 := R2.choose_spec.1.lt
        have h913 := B13.size
        have hgO13 : g < w13.heap.size := by omega
        generalize w13.alloc (.cells #[.pointer (some ⟨g2, 0, none⟩), .bool false] 89) = w14 at *
        generalize w13.heap.size = gX at *
        replace bZ := bZ.fr F14 id
        replace bC := bC.fr F14 id
        replace R9 := R9.fr F14 id (fun _ _ _ h => h)
        replace R2 := R2.fr F14 id (fun _ _ _ h => h)
        have B6 := Bl.trans B5 (Bl.of_fr F14 B5.size (fun k h => h.elim))
        clear B5 F14
        have B5 := B6
        clear B6
        have RG : Rg w14 w14 gX g2 gC w9.heap.size m2 xs false false (z19 (at1 bs 0)) := ⟨bX, R2, bC, Fr.refl _ _⟩
        have SP : Sp w14 gX g2 gC w9.heap.size m2 := ⟨by omega, by omega, by omega, fun k h1 h2 h3 => by omega, fun k h1 h2 h3 => by omega, by omega, by omega, by omega, by omega⟩
        have CR := read_calls gX g2 gC w9.heap.size m2 (at1 bs 0) (at1 bs 1) xs w14 RG SP hxb (by omega) hf hkn
        unfold ReadP at CR
        have HCR := Lib.hid CR
        clear CR RG SP bX R2
        go_wp2_with fail
        refine HCR.out.mono ?_
        rintro e w15 ⟨rfl, cs, bX, bC2, F15, hck⟩
        clear HCR bC
        replace bZ := bZ.fr F15 (fun h => by have := B5.size; rcases h with h | h | h <;> omega)
        replace R9 := R9.fr F15 (fun h => by rcases h with h | h | h <;> omega) (fun k h1 h2 h3 => by rcases h3 with h3 | h3 | h3 <;> omega)
        have B6 := Bl.trans B5 (Bl.of_fr F15 B5.size (fun k h => by rcases h with h | h | h <;> omega))
        clear B5
        have B5 := B6
        clear B6
        rw [hok] at bX
        have cx1 : w15.cell? ⟨gX, 1, none⟩ = some (.bool true) := bX.cell 1
        go_upto_region 18 with fail
        refine wp_region_lit ?_
        refine wpList_plain rfl (fun K hK => ?_)
        go_simp
        refine hK _ _ ?_
        clear hK K
        refine wpList_plain rfl (fun K hK => ?_)
        refine oper_store (cs0 := z19 0) (cs := zch) rfl rfl rfl bZ (by kernel_rfl) rfl (by simp [Value.oneCell']) ?_
        refine hK _ _ ?_
        clear hK K
        refine wpList_plain rfl (fun K hK => ?_)
        go_simp
        refine hK _ _ ?_
        clear hK K
        refine wpList_plain rfl (fun K hK => ?_)
        go_simp
        refine hK _ _ ?_
        clear hK K
        refine wpList_nil ?_
        have bQ := blk_row zch bZ
        have fQ := fr_row (w := w15) w.heap.size zch
        generalize World.setRow w15 w.heap.size zch = wz at *
        go_wp2
        (try simp only [Exit.inBlock, Exit.then])
        refine bodyPost_ret (results_blk3 rfl _ rfl bQ hup rfl (by kernel_rfl)) rfl ?_
        refine ⟨Bl.trans B5 (Bl.of_fr fQ B5.size (fun k h => by have h9 : k = w.heap.size := h; omega)), z19 0, ?_, ?_⟩
        · rw [gN_bad (by rw [HE.out]; decide), HE.out]; rfl
        · rw [gC_bad (by rw [HE.out]; decide)]; exact ckv_zero _ _ _ _
      | true =>
        have HE := Lib.hid (show gE bs = 0 by rw [HE6.out, hok]; rfl)
        go_enter Try.func18, Try.ntmps18
        go_upto_region 1 with fail
        generalize w.alloc (.cells zch 31) = w1 at *
        go_wp2_with fail
        refine (new_calls lo hi _ bs w1 X1 (by omega)).mono ?_
        rintro e w2 ⟨g, m, rfl, hm1, hm2, R, B2⟩
        have B3 := Bl.trans B1 (Bl.low B2 B1.size)
        replace bZ := bZ.fr (Fr.of_below (S := nothing) B2) id
        have hgZ : g ≠ w.heap.size := by omega
        go_upto_region 2 with fail
        refine wp_region_lit ?_
        refine wpList_plain rfl (fun K hK => ?_)
        go_simp
        refine hK _ _ ?_
        clear hK K
        refine wpList_plain rfl (fun K hK => ?_)
        go_simp
        go_at_call 36
        refine (rd1_calls g _ _ bs 0 _ (by simpa using R) HB.out).mono ?_
        rintro e w3 ⟨rfl, R3, f3⟩
        simp only []
        refine hK _ _ ?_
        clear hK K
        replace bZ := bZ.fr f3 (fun h => by have h9 : w.heap.size = g := h; omega)
        have B4 := Bl.trans B3 (Bl.of_fr f3 B3.size (fun k h => by have h9 : k = g := h; omega))
        clear R B2 B3 f3
        refine wpList_plain rfl (fun K hK => ?_)
        go_simp
        refine hK _ _ ?_
        clear hK K
        refine wpList_plain rfl (fun K hK => ?_)
        go_simp
        refine hK _ _ ?_
        clear hK K
        refine wpList_plain rfl (fun K hK => ?_)
        refine oper_store (cs0 := zch) (cs := #[.int .u8 (at1 bs 0), .bool false, .bool false, .bool false, .bool false, .int .u32 0, .int .u16 0, .int .u32 0, .int .u32 0, .int .u32 0, .int .u32 0, .int .u32 0, .int .u16 0, .int .u16 0, .slice none 0 0, .slice none 0 0, .slice none 0 0, .slice none 0 0, .slice none 0 0]) rfl rfl rfl (Blk.new w3 zch 31) (by kernel_rfl) rfl (by simp [Value.oneCell']) ?_
        refine hK _ _ ?_
        clear hK K
        refine wpList_nil ?_
        have bC : Blk ((w3.alloc (.cells zch 31)).setRow w3.heap.size #[.int .u8 (at1 bs 0), .bool false, .bool false, .bool false, .bool false, .int .u32 0, .int .u16 0, .int .u32 0, .int .u32 0, .int .u32 0, .int .u32 0, .int .u32 0, .int .u16 0, .int .u16 0, .slice none 0 0, .slice none 0 0, .slice none 0 0, .slice none 0 0, .slice none 0 0]) w3.heap.size 31 (z19 (at1 bs 0)) := blk_row #[.int .u8 (at1 bs 0), .bool false, .bool false, .bool false, .bool false, .int .u32 0, .int .u16 0, .int .u32 0, .int .u32 0, .int .u32 0, .int .u32 0, .int .u32 0, .int .u16 0, .int .u16 0, .slice none 0 0, .slice none 0 0, .slice none 0 0, .slice none 0 0, .slice none 0 0] (Blk.new w3 zch 31)
        have F4 : Fr nothing w3 ((w3.alloc (.cells zch 31)).setRow w3.heap.size #[.int .u8 (at1 bs 0), .bool false, .bool false, .bool false, .bool false, .int .u32 0, .int .u16 0, .int .u32 0, .int .u32 0, .int .u32 0, .int .u32 0, .int .u32 0, .int .u16 0, .int .u16 0, .slice none 0 0, .slice none 0 0, .slice none 0 0, .slice none 0 0, .slice none 0 0]) := ((Fr.refl nothing w3).alloc _).trans (fr_row w3.heap.size #[.int .u8 (at1 bs 0), .bool false, .bool false, .bool false, .bool false, .int .u32 0, .int .u16 0, .int .u32 0, .int .u32 0, .int .u32 0, .int .u32 0, .int .u32 0, .int .u16 0, .int .u16 0, .slice none 0 0, .slice none 0 0, .slice none 0 0, .slice none 0 0, .slice none 0 0]) (fun k hk h => by have h9 : k = w3.heap.size := h; omega)
        have hgw := R3.choose_spec.1.lt
        have hwg : w.heap.size < w3.heap.size := bZ.lt
        generalize (w3.alloc (.cells zch 31)).setRow w3.heap.size #[.int .u8 (at1 bs 0), .bool false, .bool false, .bool false, .bool false, .int .u32 0, .int .u16 0, .int .u32 0, .int .u32 0, .int .u32 0, .int .u32 0, .int .u32 0, .int .u16 0, .int .u16 0, .slice none 0 0, .slice none 0 0, .slice none 0 0, .slice none 0 0, .slice none 0 0] = w4 at *
        replace bZ := bZ.fr F4 id
        have R4 := R3.fr F4 id (fun _ _ _ h => h)
        have B5 := Bl.trans B4 (Bl.of_fr F4 B4.size (fun k h => h.elim))
        generalize w3.heap.size = gC at *
        clear R3 B4 F4
        go_wp2_with fail
        refine (rd1_calls g _ _ bs 1 _ R4 HB.out).mono ?_
        rintro e w5 ⟨rfl, R5, f⟩
        replace bZ := bZ.fr f (fun h => by have h9 : w.heap.size = g := h; omega)
        replace bC := bC.fr f (fun h => by have h9 : gC = g := h; omega)
        have B6 := Bl.trans B5 (Bl.of_fr f B5.size (fun k h => by have h9 : k = g := h; omega))
        clear B5 f
        have B5 := B6
        clear B6
        clear R4
        have CN := rd2_calls g _ _ bs 2 _ R5 HB.out
        rw [HN.out] at CN
        have HCN := Lib.hid CN
        clear CN
        go_wp2_with fail
        refine (HCN.out).mono ?_
        rintro e w6 ⟨rfl, R6, f⟩
        replace bZ := bZ.fr f (fun h => by have h9 : w.heap.size = g := h; omega)
        replace bC := bC.fr f (fun h => by have h9 : gC = g := h; omega)
        have B6 := Bl.trans B5 (Bl.of_fr f B5.size (fun k h => by have h9 : k = g := h; omega))
        clear B5 f
        have B5 := B6
        clear B6
        clear R5 HCN
        rw [hb4] at R6
        go_wp2_with fail
        refine (good_calls g _ _ _ _ _ R6).mono ?_
        rintro e w7 ⟨rfl, hw7⟩
        rw [hw7]
        clear hw7 w7
        have hC9 := Lib.hid (show gC < w6.heap.size from bC.lt)
        have hgw6 : g < w6.heap.size := R6.choose_spec.1.lt
        have R7 : Rdr w6 g w1.heap.size m (bs.drop 4) false := R6
        clear R6
        go_wp2_with fail
        refine (taken_calls g _ _ _ _ ((N : Int) - 4) _ R7).mono ?_
        rintro e w8 ⟨A1, k1, c1, rfl, hk1, -, o1, R8, f⟩
        replace bZ := bZ.fr f (fun h => by have h9 : w.heap.size = g := h; omega)
        replace bC := bC.fr f (fun h => by have h9 : gC = g := h; omega)
        have B6 := Bl.trans B5 (Bl.of_fr f B5.size (fun k h => by have h9 : k = g := h; omega))
        clear B5 f R7
        have B5 := B6
        clear B6
        have HK1 := Lib.hid hk1
        clear hk1
        go_wp2_with fail
        rw [show (-((N : Int) % 4) % 4) = ((all N - N : Nat) : Int) by unfold all; omega]
        obtain ⟨p, hp⟩ : ∃ p, p = all N - N := ⟨_, rfl⟩
        rw [← hp]
        refine (taken_calls g _ _ _ _ (p : Int) _ R8).mono ?_
        rintro e w9 ⟨A2, k2, c2, rfl, hk2, -, o2, R9, f⟩
        replace o1 := OwnB.fr o1 f (fun k h1 h2 => by have h3 : k = g := h2; have := OwnB.ge o1 k h1; omega)
        replace bZ := bZ.fr f (fun h => by have h9 : w.heap.size = g := h; omega)
        replace bC := bC.fr f (fun h => by have h9 : gC = g := h; omega)
        have B6 := Bl.trans B5 (Bl.of_fr f B5.size (fun k h => by have h9 : k = g := h; omega))
        have hsz89 := f.size
        clear B5 f R8
        have B5 := B6
        clear B6
        have HK2 := Lib.hid hk2
        clear hk2
        rw [rd_two hn4' hp, hb5] at R9
        go_wp2_with fail
        refine (good_calls g _ _ _ _ _ R9).mono ?_
        rintro e w10 ⟨rfl, hw10⟩
        rw [hw10]
        clear hw10 w10
        replace hC9 := Lib.hid (show gC < w9.heap.size from bC.lt)
        obtain ⟨t1, t2, t3⟩ := rd_three hn4' hp h5'
        rw [t1] at o1 HK1
        rw [t2] at o2 HK2
        rw [t3] at R9
        rw [HI.out] at o1 HK1
        rw [HPD.out] at o2 HK2
        have rB : RdB w9 w8.heap.size w9.heap.size A2 pad := by
          obtain ⟨A', cc, e, q1, q2, q3, q4⟩ := SlB.of_own o2
          injection e with e1 _ _
          subst e1
          exact q4
        have e2 : k2 = pad.length := HK2.out
        subst e2
        have e1 : k1 = xs.length := HK1.out
        subst e1
        clear t1 t2 t3 HK1 HK2 o2
        have CH := has2_calls _ _ A2 c2 pad w9 rB (by omega)
        rw [hpn] at CH
        have HCH := Lib.hid CH
        clear CH rB
        go_wp2_with fail
        refine HCH.out.mono ?_
        rintro e w11 ⟨rfl, hw11⟩
        rw [hw11]
        clear hw11 w11 HCH
        have cc : w9.cell? ⟨gC, 0, none⟩ = some (.int .u8 (at1 bs 0)) := bC.cell 0
        have CK := known_calls (at1 bs 0) w9
        rw [hkn] at CK
        have HCK := Lib.hid CK
        clear CK
        go_wp2_with fail
        refine HCK.out.mono ?_
        rintro e w12 ⟨rfl, hw12⟩
        rw [hw12]
        clear hw12 w12 HCK
        go_wp2_with fail
        refine (new_calls _ _ _ xs w9 (SlB.of_own o1) (by omega)).mono ?_
        rintro e w13 ⟨g2, m2, rfl, hn1, hn2, R2, B13⟩
        replace bZ := bZ.fr (Fr.of_below (S := nothing) B13) id
        replace bC := bC.fr (Fr.of_below (S := nothing) B13) id
        replace R9 := R9.fr (Fr.of_below (S := nothing) B13) id (fun _ _ _ h => h)
        have B6 := Bl.trans B5 (Bl.low B13 B5.size)
        clear B5 o1
        have B5 := B6
        clear B6
        have hgC9 : gC < w9.heap.size := by have h1 := bC.lt; have h2 := hC9.out; omega
        have hg9 : g < w9.heap.size := by omega
        go_upto_region 16 with fail
        have bX := Blk.new w13 #[.pointer (some ⟨g2, 0, none⟩), .bool false] 89
        have F14 : Fr nothing w13 (w13.alloc (.cells #[.pointer (some ⟨g2, 0, none⟩), .bool false] 89)) := (Fr.refl nothing w13).alloc _
        have hs14 : (w13.alloc (.cells #[.pointer (some ⟨g2, 0, none⟩), .bool false] 89)).heap.size = w13.heap.size + 1 := by simp
        have hg2 := R2.choose_spec.1.lt
        have h913 := B13.size
        have hgO13 : g < w13.heap.size := by omega
        generalize w13.alloc (.cells #[.pointer (some ⟨g2, 0, none⟩), .bool false] 89) = w14 at *
        generalize w13.heap.size = gX at *
        replace bZ := bZ.fr F14 id
        replace bC := bC.fr F14 id
        replace R9 := R9.fr F14 id (fun _ _ _ h => h)
        replace R2 := R2.fr F14 id (fun _ _ _ h => h)
        have B6 := Bl.trans B5 (Bl.of_fr F14 B5.size (fun k h => h.elim))
        clear B5 F14
        have B5 := B6
        clear B6
        have RG : Rg w14 w14 gX g2 gC w9.heap.size m2 xs false false (z19 (at1 bs 0)) := ⟨bX, R2, bC, Fr.refl _ _⟩
        have SP : Sp w14 gX g2 gC w9.heap.size m2 := ⟨by omega, by omega, by omega, fun k h1 h2 h3 => by omega, fun k h1 h2 h3 => by omega, by omega, by omega, by omega, by omega⟩
        have CR := read_calls gX g2 gC w9.heap.size m2 (at1 bs 0) (at1 bs 1) xs w14 RG SP hxb (by omega) hf hkn
        unfold ReadP at CR
        have HCR := Lib.hid CR
        clear CR RG SP bX R2
        go_wp2_with fail
        refine HCR.out.mono ?_
        rintro e w15 ⟨rfl, cs, bX, bC2, F15, hck⟩
        clear HCR bC
        replace bZ := bZ.fr F15 (fun h => by have := B5.size; rcases h with h | h | h <;> omega)
        replace R9 := R9.fr F15 (fun h => by rcases h with h | h | h <;> omega) (fun k h1 h2 h3 => by rcases h3 with h3 | h3 | h3 <;> omega)
        have B6 := Bl.trans B5 (Bl.of_fr F15 B5.size (fun k h => by rcases h with h | h | h <;> omega))
        clear B5
        have B5 := B6
        clear B6
        rw [hok] at bX
        have cx1 : w15.cell? ⟨gX, 1, none⟩ = some (.bool false) := bX.cell 1
        have ckv := hck hok
        have hsz := ckv.size
        go_upto_region 19 with fail
        obtain ⟨AN, hAN⟩ : ∃ AN : Nat, all N = AN := ⟨_, rfl⟩
        obtain ⟨LF, hLF⟩ : ∃ LF : Nat, (bs.drop (all N)).length = LF := ⟨_, rfl⟩
        have hLA : LF + AN = bs.length := by rw [← hLF, ← hAN, List.length_drop]; omega
        have CL := left_calls g w1.heap.size m (bs.drop (all N)) false
        rw [hLF] at CL
        have HCL := Lib.hid CL
        have hw1 : wrap64 ((bs.length : Int) - (LF : Int)) = (AN : Int) := by unfold wrap64; omega
        have hw2 : IntKind.i64.wrap ((bs.length : Int) - (LF : Int)) = (AN : Int) := by rw [IntWalk.i64_in _ (by omega)]; omega
        have HAN := Lib.hid hAN
        have hneC : gC ≠ w.heap.size := by omega
        have hgZ2 : w.heap.size ≠ g := fun h => hgZ h.symm
        have hzs : (z19 0).size = cs.size := by rw [hsz]; rfl
        have hon := ckv.one
        have HCKV := Lib.hid ckv
        have HB5 := Lib.hid B5
        have HWR := Lib.hid (And.intro bC2 R9)
        clear CL hLF hAN hLA ckv hck B5 cx1 bX F15
        refine wp_region_any (by kernel_rfl) ?_
        refine Reg.wpAny_inv (I := fun listed act wq => ∃ (d0 d1 d2 d3 d4 d5 d6 d7 d8 : Bool), listed = #[d0, d1, d2, d3, d4, d5, d6, d7, d8] ∧ act = ⟨#[.slice A bs.length c, undef, .pointer (some ⟨w.heap.size, 0, none⟩), (bif d7 then (.int .i64 AN) else (.int .i64 0)), .int .i64 0, .pointer (some ⟨g, 0, none⟩), .pointer (some ⟨gC, 0, none⟩), .int .u8 (at1 bs 1), .int .i64 N, .slice A1 xs.length c1, .slice A2 pad.length c2, .pointer (some ⟨gX, 0, none⟩), .slice A bs.length c, .pointer (some ⟨g, 0, none⟩), .pointer (some ⟨g, 0, none⟩), .int .u8 (at1 bs 0), .agg #[.int .u8 (at1 bs 0), .bool false, .bool false, .bool false, .bool false, .int .u32 0, .int .u16 0, .int .u32 0, .int .u32 0, .int .u32 0, .int .u32 0, .int .u32 0, .int .u16 0, .int .u16 0, .slice none 0 0, .slice none 0 0, .slice none 0 0, .slice none 0 0, .slice none 0 0], .pointer (some ⟨g, 0, none⟩), .int .u8 (at1 bs 1), .pointer (some ⟨g, 0, none⟩), .int .u16 N, .int .i64 N, .pointer (some ⟨g, 0, none⟩), .bool true, .bool true, .int .i64 N, .bool false, .bool false, undef, .pointer (some ⟨g, 0, none⟩), .int .i64 N, .int .i64 ((N : Int) - 4), .slice A1 xs.length c1, .pointer (some ⟨g, 0, none⟩), .int .i64 N, .int .i64 ((N : Int) % 4), .int .i64 (4 - (N : Int) % 4), .int .i64 (-((N : Int) % 4) % 4), .slice A2 pad.length c2, .bool false, .pointer (some ⟨g, 0, none⟩), .bool true, .bool false, undef, .bool false, .slice A2 pad.length c2, .bool false, undef, .bool false, .pointer (some ⟨gC, 0, none⟩), .int .u8 (at1 bs 0), .bool true, .bool false, undef, .slice A1 xs.length c1, .pointer (some ⟨g2, 0, none⟩), .agg #[.pointer (some ⟨g2, 0, none⟩), .bool false], .pointer (some ⟨gX, 0, none⟩), .pointer (some ⟨gX, 0, none⟩), .int .u8 (at1 bs 1), .tuple #[], .pointer (some ⟨gX, 0, none⟩), .pointer (some ⟨gX, 0, none⟩), .pointer (some ⟨gX, 1, none⟩), .bool false, undef, (bif d0 then (.agg cs) else undef), (bif d1 then (.slice A bs.length c) else undef), (bif d2 then (.int .i64 bs.length) else undef), (bif d3 then (.pointer (some ⟨g, 0, none⟩)) else undef), (bif d4 then (.int .i64 LF) else undef), (bif d5 then (.int .i64 AN) else undef)], []⟩ ∧ Fr (only w.heap.size) w15 wq ∧ Blk wq w.heap.size 31 (bif d6 then cs else z19 0)) ?_ ?_ _ _ _ _ (by decide) ?_
        · intro i o listed act wq hi hI hun hdeps K hK
          obtain ⟨d0, d1, d2, d3, d4, d5, d6, d7, d8, rfl, rfl, hF, hZ⟩ := hI
          have hlt : i < 9 := (Array.getElem?_eq_some_iff.1 hi).1
          rcases (show i = 0 ∨ i = 1 ∨ i = 2 ∨ i = 3 ∨ i = 4 ∨ i = 5 ∨ i = 6 ∨ i = 7 ∨ i = 8 by omega) with rfl | rfl | rfl | rfl | rfl | rfl | rfl | rfl | rfl
          · skip
            obtain rfl : _ = o := Option.some.inj hi
            obtain rfl : d0 = false := by simpa using hun
            clear hun hdeps hi
            rw [if_pos (show Region.wanted _ _ = true from rfl)]
            refine Mem.oper_load rfl rfl (HWR.out.1.fr hF hneC) hup rfl (by rw [hsz]; kernel_rfl) ?_
            exact hK _ _ ⟨true, d1, d2, d3, d4, d5, d6, d7, d8, rfl, rfl, hF, hZ⟩
          · skip
            obtain rfl : _ = o := Option.some.inj hi
            obtain rfl : d1 = false := by simpa using hun
            clear hun hdeps hi
            go_simp
            exact hK _ _ ⟨d0, true, d2, d3, d4, d5, d6, d7, d8, rfl, rfl, hF, hZ⟩
          · skip
            obtain rfl : _ = o := Option.some.inj hi
            obtain rfl : d2 = false := by simpa using hun
            obtain rfl : d1 = true := hdeps _ (Array.mem_of_getElem? (i := 0) rfl) rfl
            clear hun hdeps hi
            go_simp
            exact hK _ _ ⟨d0, true, true, d3, d4, d5, d6, d7, d8, rfl, rfl, hF, hZ⟩
          · skip
            obtain rfl : _ = o := Option.some.inj hi
            obtain rfl : d3 = false := by simpa using hun
            clear hun hdeps hi
            go_simp
            exact hK _ _ ⟨d0, d1, d2, true, d4, d5, d6, d7, d8, rfl, rfl, hF, hZ⟩
          · skip
            obtain rfl : _ = o := Option.some.inj hi
            obtain rfl : d4 = false := by simpa using hun
            obtain rfl : d3 = true := hdeps _ (Array.mem_of_getElem? (i := 0) rfl) rfl
            clear hun hdeps hi
            have RL := HWR.out.2.fr hF (fun h => hgZ2 h.symm) (fun k h1 h2 h3 => by have h9 : k = w.heap.size := h3; omega)
            have HC := Lib.hid (HCL.out wq RL)
            go_simp
            go_at_call 43
            refine HC.out.mono ?_
            rintro e w' ⟨rfl, hw'⟩
            rw [hw']
            clear HC hw'
            go_simp
            exact hK _ _ ⟨d0, d1, d2, true, true, d5, d6, d7, d8, rfl, rfl, hF, hZ⟩
          · skip
            obtain rfl : _ = o := Option.some.inj hi
            obtain rfl : d5 = false := by simpa using hun
            obtain rfl : d2 = true := hdeps _ (Array.mem_of_getElem? (i := 0) rfl) rfl
            obtain rfl : d4 = true := hdeps _ (Array.mem_of_getElem? (i := 1) rfl) rfl
            clear hun hdeps hi
            go_simp
            exact hK _ _ ⟨d0, d1, true, d3, true, true, d6, d7, d8, rfl, rfl, hF, hZ⟩
          · skip
            obtain rfl : _ = o := Option.some.inj hi
            obtain rfl : d6 = false := by simpa using hun
            obtain rfl : d0 = true := hdeps _ (Array.mem_of_getElem? (i := 0) rfl) rfl
            obtain rfl : d4 = true := hdeps _ (Array.mem_of_getElem? (i := 1) rfl) rfl
            clear hun hdeps hi
            rw [if_pos (show Region.wanted _ _ = true from rfl)]
            refine Mem.oper_store (cs0 := z19 0) (cs := cs) rfl rfl rfl hZ (by rw [hsz]; kernel_rfl) hzs hon ?_
            exact hK _ _ ⟨true, d1, d2, d3, true, d5, true, d7, d8, rfl, rfl, hF.trans (fr_row w.heap.size cs) (fun k _ h => h), blk_row cs hZ⟩
          · skip
            obtain rfl : _ = o := Option.some.inj hi
            obtain rfl : d7 = false := by simpa using hun
            obtain rfl : d5 = true := hdeps _ (Array.mem_of_getElem? (i := 0) rfl) rfl
            obtain rfl : d6 = true := hdeps _ (Array.mem_of_getElem? (i := 1) rfl) rfl
            clear hun hdeps hi
            go_simp
            exact hK _ _ ⟨d0, d1, d2, d3, d4, true, true, true, d8, rfl, rfl, hF, hZ⟩
          · skip
            obtain rfl : _ = o := Option.some.inj hi
            obtain rfl : d8 = false := by simpa using hun
            obtain rfl : d7 = true := hdeps _ (Array.mem_of_getElem? (i := 0) rfl) rfl
            clear hun hdeps hi
            go_simp
            exact hK _ _ ⟨d0, d1, d2, d3, d4, d5, d6, true, true, rfl, rfl, hF, hZ⟩
        · intro listed act wq hI hr0
          obtain ⟨d0, d1, d2, d3, d4, d5, d6, d7, d8, rfl, rfl, hF, hZ⟩ := hI
          have hall := Reg.all_of_done (by kernel_rfl) rfl hr0
          obtain rfl : d0 = true := hall 0 (by decide)
          obtain rfl : d1 = true := hall 1 (by decide)
          obtain rfl : d2 = true := hall 2 (by decide)
          obtain rfl : d3 = true := hall 3 (by decide)
          obtain rfl : d4 = true := hall 4 (by decide)
          obtain rfl : d5 = true := hall 5 (by decide)
          obtain rfl : d6 = true := hall 6 (by decide)
          obtain rfl : d7 = true := hall 7 (by decide)
          obtain rfl : d8 = true := hall 8 (by decide)
          clear hall hr0 hw1 hw2
          simp only [cond_true] at hZ ⊢
          go_wp2
          (try simp only [Exit.inBlock, Exit.then])
          refine bodyPost_ret (results_blk3 rfl _ rfl hZ hup rfl (by rw [hsz]; kernel_rfl)) rfl ?_
          have h15 := HB5.out.size
          refine ⟨Bl.trans HB5.out (Bl.of_fr hF h15 (fun k h => by have h9 : k = w.heap.size := h; omega)), cs, ?_, ?_⟩
          · rw [show gN bs = AN by unfold gN; rw [if_pos HE.out, HGL.out]; exact HAN.out, HE.out]; rfl
          · rw [show gCk bs = rC (at1 bs 0) (at1 bs 1) xs by unfold gCk; rw [if_pos HE.out, HGI.out]]
            exact (HCKV.out.fr hF (fun k h1 h2 h3 => by have h9 : k = w.heap.size := h3; omega)).more (by omega) hF.size
        · exact ⟨false, false, false, false, false, false, false, false, false, rfl, rfl, (Fr.refl _ w15).drew, bZ⟩
end Go.Proofs.Ytaifihoheieneaa.Chk
