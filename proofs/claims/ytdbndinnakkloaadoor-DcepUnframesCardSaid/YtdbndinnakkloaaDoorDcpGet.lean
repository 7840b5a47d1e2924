/- Contract of dcep.GetOffer. Conditions: utf8's tables read as laid; each names its blocks. -/
import Derived.Test.YtdbndinnakkloaaDoorDcpPut
import Derived.Test.YtdbndinnakkloaaDoorBstr
import Derived.Test.YtdbndinnakkloaaDoorOpr
import Derived.Test.YtdbndinnakkloaaDoorRegInv
namespace Go.Proofs.YtdbndinnakkloaaDoor.Dcp
open Go.RowKit Go.Proofs.YtdbndinnakkloaaDoor.Mem Go.Proofs.YtdbndinnakkloaaDoor.Octet
set_option linter.unusedVariables false
set_option linter.unusedSimpArgs false
def hd (bs : List Int) (i : Nat) : Int := bs.getD i 0
def gK (bs : List Int) : Int := hd bs 1 % 128
def gP (bs : List Int) : Int := hd bs 2 * 256 + hd bs 3
def gN (bs : List Int) : Int := ((hd bs 4 * 256 + hd bs 5) * 256 + hd bs 6) * 256 + hd bs 7
def gA (bs : List Int) : Nat := (hd bs 8 * 256 + hd bs 9).toNat
def gB (bs : List Int) : Nat := (hd bs 10 * 256 + hd bs 11).toNat
def gL (bs : List Int) : ByteArray := bstr ((bs.drop 12).take (gA bs))
def gR (bs : List Int) : ByteArray := bstr ((bs.drop (12 + gA bs)).take (gB bs))
/-- The error of bytes as an offer. -/
def gE (bs : List Int) : Int :=
  if bs.length < 12 then 40 else if hd bs 0 ≠ 3 ∨ rightB (gK bs) (gN bs) = false then 60 else if 255 < gA bs ∨ 255 < gB bs then 43
  else if bs.length < 12 + gA bs + gB bs then 40 else if 12 + gA bs + gB bs < bs.length then 41 else if (vd (gL bs) && vd (gR bs)) = true then 0 else 200
def gV (bs : List Int) : Array Value := if gE bs = 0 then off (decide (128 ≤ hd bs 1)) (gK bs) (gN bs) (gP bs) (gL bs) (gR bs) else #[.bool false, .int .i64 0, .int .u32 0, .int .u16 0, .string ⟨#[]⟩, .string ⟨#[]⟩]
theorem num_one {a : Int} (h : 0 ≤ a ∧ a < 256) : num [a] = a := by simp [num]; omega
theorem num_two {a b : Int} (ha : 0 ≤ a ∧ a < 256) (hb : 0 ≤ b ∧ b < 256) : num [a, b] = a * 256 + b := by simp [num]; omega
theorem num_four {a b c d : Int} (ha : 0 ≤ a ∧ a < 256) (hb : 0 ≤ b ∧ b < 256) (hc : 0 ≤ c ∧ c < 256) (hd : 0 ≤ d ∧ d < 256) : num [a, b, c, d] = ((a * 256 + b) * 256 + c) * 256 + d := by simp [num]; omega
theorem isb_tail {xs ys : List Int} (h : IsB (xs ++ ys)) : IsB ys := fun x hx => h x (List.mem_append.2 (.inr hx))
theorem tk_in {xs ys : List Int} {n : Int} (h : ((xs.length : Nat) : Int) = n) : tk (xs ++ ys) n = xs ∧ lf (xs ++ ys) n = ys ∧ bd (xs ++ ys) false n = false := by
  subst h
  have h1 : ¬ (((xs.length : Nat) : Int) < 0 ∨ ((xs ++ ys).length : Int) < (xs.length : Nat)) := by simp; omega
  unfold tk lf bd
  rw [if_neg h1, if_neg h1, if_neg h1]
  simp
theorem tk_nat (r : List Int) (n : Nat) (h : n ≤ r.length) : tk r n = r.take n := by
  unfold tk
  rw [if_neg (by omega)]
  simp
theorem lf_nat (r : List Int) (n : Nat) (h : n ≤ r.length) : lf r n = r.drop n := by
  unfold lf
  rw [if_neg (by omega)]
  simp
theorem end_two (r : List Int) (a b : Nat) : endOf (lf (lf r a) b) (bd (lf r a) (bd r false a) b) = (if r.length < a + b then 40 else if a + b < r.length then 41 else 0) := by
  by_cases h1 : r.length < a
  · have e1 : bd r false a = true := by unfold bd; rw [if_pos (.inr (by omega))]
    have e2 : lf r a = [] := by unfold lf; rw [if_pos (.inr (by omega))]
    rw [e1, e2, if_pos (by omega)]
    have e3 : bd [] true b = true := by unfold bd; split <;> rfl
    rw [e3]
    rfl
  · have e1 : bd r false a = false := by unfold bd; rw [if_neg (by omega)]
    rw [e1, lf_nat r a (by omega)]
    by_cases h2 : (r.drop a).length < b
    · have e3 : bd (r.drop a) false b = true := by unfold bd; rw [if_pos (.inr (by omega))]
      rw [e3, if_pos (by simp at h2; omega)]
      rfl
    · have e3 : bd (r.drop a) false b = false := by unfold bd; rw [if_neg (by omega)]
      rw [e3, lf_nat _ b (by omega)]
      simp only [List.length_drop] at h2
      rw [if_neg (by omega)]
      unfold endOf
      rw [if_neg (by decide)]
      by_cases h3 : a + b < r.length
      · rw [if_pos (by simp; omega), if_pos h3]
      · rw [if_neg (by simp; omega), if_neg h3]
set_option maxRecDepth 100000 in
theorem and128 : ∀ X : Fin 256, bits .and .u8 ((X.val : Nat) : Int) 128 = if 128 ≤ X.val then 128 else 0 := by decide
set_option maxRecDepth 100000 in
theorem andn128 : ∀ X : Fin 256, bits .andNot .u8 ((X.val : Nat) : Int) 128 = ((X.val % 128 : Nat) : Int) := by decide
theorem byte_of {x : Int} (h : 0 ≤ x ∧ x < 256) : ∃ X : Fin 256, x = ((X.val : Nat) : Int) := ⟨⟨x.toNat, by omega⟩, by show x = ((x.toNat : Nat) : Int); omega⟩
theorem loose_b {x : Int} (h : 0 ≤ x ∧ x < 256) : (bits .and .u8 x 128 != 0) = decide (128 ≤ x) := by
  obtain ⟨X, rfl⟩ := byte_of h
  rw [and128]
  by_cases h2 : 128 ≤ X.val
  · rw [if_pos h2, decide_eq_true (by omega)]; rfl
  · rw [if_neg h2, decide_eq_false (by omega)]; rfl
theorem kind_b {x : Int} (h : 0 ≤ x ∧ x < 256) : bits .andNot .u8 x 128 = x % 128 := by
  obtain ⟨X, rfl⟩ := byte_of h
  rw [andn128]
  omega
theorem gV_bad {bs : List Int} (h : gE bs ≠ 0) : gV bs = #[.bool false, .int .i64 0, .int .u32 0, .int .u16 0, .string ⟨#[]⟩, .string ⟨#[]⟩] := by unfold gV; rw [if_neg h]
theorem bytes12 {bs : List Int} (h : ¬ bs.length < 12) (hB : IsB bs) : ∃ (a0 a1 a2 a3 a4 a5 a6 a7 a8 a9 a10 a11 : Int) (r : List Int), bs = [a0] ++ ([a1] ++ ([a2, a3] ++ ([a4, a5, a6, a7] ++ ([a8, a9] ++ ([a10, a11] ++ r))))) ∧
    (0 ≤ a0 ∧ a0 < 256) ∧ (0 ≤ a1 ∧ a1 < 256) ∧ (0 ≤ a2 ∧ a2 < 256) ∧ (0 ≤ a3 ∧ a3 < 256) ∧ (0 ≤ a4 ∧ a4 < 256) ∧ (0 ≤ a5 ∧ a5 < 256) ∧ (0 ≤ a6 ∧ a6 < 256) ∧ (0 ≤ a7 ∧ a7 < 256) ∧ (0 ≤ a8 ∧ a8 < 256) ∧ (0 ≤ a9 ∧ a9 < 256) ∧ (0 ≤ a10 ∧ a10 < 256) ∧ (0 ≤ a11 ∧ a11 < 256) ∧ IsB r := by
  rcases bs with _ | ⟨a0, bs⟩
  · exact absurd (by simp) h
  rcases bs with _ | ⟨a1, bs⟩
  · exact absurd (by simp) h
  rcases bs with _ | ⟨a2, bs⟩
  · exact absurd (by simp) h
  rcases bs with _ | ⟨a3, bs⟩
  · exact absurd (by simp) h
  rcases bs with _ | ⟨a4, bs⟩
  · exact absurd (by simp) h
  rcases bs with _ | ⟨a5, bs⟩
  · exact absurd (by simp) h
  rcases bs with _ | ⟨a6, bs⟩
  · exact absurd (by simp) h
  rcases bs with _ | ⟨a7, bs⟩
  · exact absurd (by simp) h
  rcases bs with _ | ⟨a8, bs⟩
  · exact absurd (by simp) h
  rcases bs with _ | ⟨a9, bs⟩
  · exact absurd (by simp) h
  rcases bs with _ | ⟨a10, bs⟩
  · exact absurd (by simp) h
  rcases bs with _ | ⟨a11, bs⟩
  · exact absurd (by simp) h
  exact ⟨a0, a1, a2, a3, a4, a5, a6, a7, a8, a9, a10, a11, bs, rfl, hB _ (by simp), hB _ (by simp), hB _ (by simp), hB _ (by simp), hB _ (by simp), hB _ (by simp), hB _ (by simp), hB _ (by simp), hB _ (by simp), hB _ (by simp), hB _ (by simp), hB _ (by simp), fun x hx => hB x (by simp [hx])⟩
set_option maxHeartbeats 4000000 in
set_option maxRecDepth 100000 in
theorem get_calls (lo hi : Nat) (v : Value) (bs : List Int) (w : World) (hT : Tabs w) (h : SlB w lo hi v bs) (hhi : hi ≤ w.heap.size) (hB : IsB bs) (hlen : bs.length ≤ 140737488355328) :
    Calls Tryd.prog 8 #[v] w fun e w' => e = .returned (.tuple #[.agg (gV bs), .int .i64 (gE bs)]) ∧ Below w.heap.size w w' := by
  have hup := Tryd.underlying30
  have hupL := Tryd.underlying27
  have B1 : Below w.heap.size w (w.alloc (.cells #[.bool false, .int .i64 0, .int .u32 0, .int .u16 0, .string ⟨#[]⟩, .string ⟨#[]⟩] 30)) := (Below.refl _ w).alloc (Nat.le_refl _) _
  have bR := Blk.new w #[.bool false, .int .i64 0, .int .u32 0, .int .u16 0, .string ⟨#[]⟩, .string ⟨#[]⟩] 30
  have X1 := SlB.bl h B1 hhi
  obtain ⟨A, c, rfl, -⟩ := id h
  by_cases h12 : bs.length < 12
  · have hE : gE bs = 40 := by unfold gE; rw [if_pos h12]
    have hV := gV_bad (bs := bs) (by rw [hE]; decide)
    have HE := Lib.hid hE
    have HV := Lib.hid hV
    have hd1 : decide ((bs.length : Int) < 12) = true := decide_eq_true (by omega)
    clear hE hV h12 h
    go_enter Tryd.func8, Tryd.ntmps8
    go_upto_region 2 with fail
    generalize w.alloc (.cells #[.bool false, .int .i64 0, .int .u32 0, .int .u16 0, .string ⟨#[]⟩, .string ⟨#[]⟩] 30) = w1 at *
    refine wp_region_lit ?_
    refine wpList_plain rfl (fun K hK => ?_)
    go_simp
    refine hK _ _ ?_
    clear hK K
    refine wpList_plain rfl (fun K hK => ?_)
    refine oper_store (cs0 := #[.bool false, .int .i64 0, .int .u32 0, .int .u16 0, .string ⟨#[]⟩, .string ⟨#[]⟩]) rfl rfl rfl bR (by kernel_rfl) rfl (by simp [Value.oneCell']) ?_
    refine hK _ _ ?_
    clear hK K
    refine wpList_plain rfl (fun K hK => ?_)
    go_simp
    refine hK _ _ ?_
    clear hK K
    refine wpList_nil ?_
    have bZ := blk_row #[.bool false, .int .i64 0, .int .u32 0, .int .u16 0, .string ⟨#[]⟩, .string ⟨#[]⟩] bR
    have fZ := fr_row (w := w1) w.heap.size #[.bool false, .int .i64 0, .int .u32 0, .int .u16 0, .string ⟨#[]⟩, .string ⟨#[]⟩]
    generalize World.setRow w1 w.heap.size #[.bool false, .int .i64 0, .int .u32 0, .int .u16 0, .string ⟨#[]⟩, .string ⟨#[]⟩] = wz at *
    go_wp2
    (try simp only [Exit.inBlock, Exit.then])
    refine bodyPost_ret (results_blk rfl _ rfl bZ hup rfl (by kernel_rfl)) rfl ?_
    rw [HE.out, HV.out]
    exact ⟨rfl, Bl.trans B1 (Bl.of_fr fZ (B1).size (fun k h => by have h9 : k = w.heap.size := h; omega))⟩
  · obtain ⟨a0, a1, a2, a3, a4, a5, a6, a7, a8, a9, a10, a11, r, eb, z0, z1, z2, z3, z4, z5, z6, z7, z8, z9, z10, z11, hr⟩ := bytes12 h12 hB
    have hd1 : decide ((bs.length : Int) < 12) = false := decide_eq_false (by omega)
    have I0 : IsB ([a0] ++ ([a1] ++ ([a2, a3] ++ ([a4, a5, a6, a7] ++ ([a8, a9] ++ ([a10, a11] ++ r)))))) := eb ▸ hB
    have I1 := isb_tail I0
    have I2 := isb_tail I1
    have I3 := isb_tail I2
    have I4 := isb_tail I3
    have I5 := isb_tail I4
    have e0 : hd bs 0 = a0 := by rw [eb]; rfl
    have e1 : hd bs 1 = a1 := by rw [eb]; rfl
    have eK : gK bs = a1 % 128 := by unfold gK; rw [eb]; rfl
    have eP : gP bs = a2 * 256 + a3 := by unfold gP; rw [eb]; rfl
    have eN : gN bs = ((a4 * 256 + a5) * 256 + a6) * 256 + a7 := by unfold gN; rw [eb]; rfl
    have eA : gA bs = (a8 * 256 + a9).toNat := by unfold gA; rw [eb]; rfl
    have eB : gB bs = (a10 * 256 + a11).toNat := by unfold gB; rw [eb]; rfl
    have eR : bs.drop 12 = r := by rw [eb]; rfl
    have eL : bs.length = 12 + r.length := by rw [eb]; simp; omega
    obtain ⟨nA, hnA⟩ : ∃ nA : Nat, gA bs = nA := ⟨_, rfl⟩
    obtain ⟨nB, hnB⟩ : ∃ nB : Nat, gB bs = nB := ⟨_, rfl⟩
    have hA2 : a8 * 256 + a9 = (nA : Int) := by rw [← hnA, eA]; omega
    have hB2 : a10 * 256 + a11 = (nB : Int) := by rw [← hnB, eB]; omega
    obtain ⟨N, hN⟩ : ∃ N : Int, gN bs = N := ⟨_, rfl⟩
    obtain ⟨P, hP⟩ : ∃ P : Int, gP bs = P := ⟨_, rfl⟩
    have hLs : gL bs = bstr (r.take nA) := by unfold gL; rw [hnA, eR]
    have hRs : gR bs = bstr ((r.drop nA).take nB) := by unfold gR; rw [hnA, hnB, ← List.drop_drop, eR]
    have HGE : gE bs = (if a0 ≠ 3 ∨ rightB (a1 % 128) N = false then 60 else if 255 < nA ∨ 255 < nB then 43 else if r.length < nA + nB then 40 else if nA + nB < r.length then 41 else if (vd (bstr (r.take nA)) && vd (bstr ((r.drop nA).take nB))) = true then 0 else 200) := by
      unfold gE
      rw [if_neg h12, e0, eK, hN, hnA, hnB, hLs, hRs, eL]
      congr 2
      by_cases q1 : r.length < nA + nB
      · rw [if_pos (by omega), if_pos q1]
      · rw [if_neg (by omega), if_neg q1]
        by_cases q2 : nA + nB < r.length
        · rw [if_pos (by omega), if_pos q2]
        · rw [if_neg (by omega), if_neg q2]
    have HVV : gE bs = 0 → gV bs = off (decide (128 ≤ a1)) (a1 % 128) N P (bstr (r.take nA)) (bstr ((r.drop nA).take nB)) := fun h => by
      unfold gV
      rw [if_pos h, e1, eK, hN, hP, hLs, hRs]
    have hNz : num [a4, a5, a6, a7] = N := by rw [num_four z4 z5 z6 z7, ← hN, eN]
    have hPz : num [a2, a3] = P := by rw [num_two z2 z3, ← hP, eP]
    have hAz : num [a8, a9] = nA := by rw [num_two z8 z9, hA2]
    have hBz : num [a10, a11] = nB := by rw [num_two z10 z11, hB2]
    have hnA1 : nA < 65536 := by omega
    have hnB1 : nB < 65536 := by omega
    have hlb := loose_b z1
    have hkb := kind_b z1
    have hkr : 0 ≤ a1 % 128 ∧ a1 % 128 < 128 := by omega
    have CN := new_calls _ _ _ bs _ X1 hlen
    have HCN := Lib.hid CN
    have HEB := Lib.hid eb
    have hGE := Lib.hid HGE
    have hVV := Lib.hid HVV
    have hrl : r.length ≤ 140737488355328 := by omega
    clear CN eb HGE HVV e0 e1 eK eP eN eA eB eR eL hLs hRs hN hP hnA hnB hA2 hB2 h h12 z2 z3 z4 z5 z6 z7 z8 z9 z10 z11 hB X1
    go_enter Tryd.func8, Tryd.ntmps8
    go_wp2_with fail
    refine HCN.out.mono ?_
    rintro e w2 ⟨g, m, rfl, hm1, hm2, R, B2⟩
    rw [HEB.out] at R
    obtain ⟨w1s, hw1s⟩ : ∃ x, x = (w.alloc (.cells #[.bool false, .int .i64 0, .int .u32 0, .int .u16 0, .string ⟨#[]⟩, .string ⟨#[]⟩] 30)).heap.size := ⟨_, rfl⟩
    rw [← hw1s] at R
    have bR2 := Blk.fr bR (Fr.of_below (S := nothing) B2) id
    have B3 := Bl.trans B1 (Bl.low B2 (by simp))
    have hgR : w.heap.size < g := by simp at hm1; omega
    have T2 := hT.below B3
    clear B1 B2 bR HCN hw1s
    have P1 := u8_calls g _ _ _ false w2 R I0 R.choose_spec.1.lt
    unfold Num1P at P1
    rw [(tk_in (xs := [a0]) (n := 1) rfl).1, (tk_in (xs := [a0]) (n := 1) rfl).2.1, (tk_in (xs := [a0]) (n := 1) rfl).2.2, num_one z0] at P1
    have HP1 := Lib.hid P1
    clear P1
    go_wp2_with fail
    refine HP1.out.mono ?_
    rintro e w3 ⟨rfl, R3, f3⟩
    clear HP1
    have P2 := u8_calls g _ _ _ false w3 R3 I1 R3.choose_spec.1.lt
    unfold Num1P at P2
    rw [(tk_in (xs := [a1]) (n := 1) rfl).1, (tk_in (xs := [a1]) (n := 1) rfl).2.1, (tk_in (xs := [a1]) (n := 1) rfl).2.2, num_one z1] at P2
    have HP2 := Lib.hid P2
    clear P2
    go_wp2_with fail
    refine HP2.out.mono ?_
    rintro e w4 ⟨rfl, R4, f4⟩
    clear HP2
    have P3 := u16_calls g _ _ _ false w4 R4 I2 R4.choose_spec.1.lt
    unfold Num1P at P3
    rw [(tk_in (xs := [a2, a3]) (n := 2) rfl).1, (tk_in (xs := [a2, a3]) (n := 2) rfl).2.1, (tk_in (xs := [a2, a3]) (n := 2) rfl).2.2, hPz] at P3
    have HP3 := Lib.hid P3
    clear P3
    go_wp2_with fail
    refine HP3.out.mono ?_
    rintro e w5 ⟨rfl, R5, f5⟩
    clear HP3
    have P4 := u32_calls g _ _ _ false w5 R5 I3 R5.choose_spec.1.lt
    unfold Num1P at P4
    rw [(tk_in (xs := [a4, a5, a6, a7]) (n := 4) rfl).1, (tk_in (xs := [a4, a5, a6, a7]) (n := 4) rfl).2.1, (tk_in (xs := [a4, a5, a6, a7]) (n := 4) rfl).2.2, hNz] at P4
    have HP4 := Lib.hid P4
    clear P4
    go_wp2_with fail
    refine HP4.out.mono ?_
    rintro e w6 ⟨rfl, R6, f6⟩
    clear HP4
    have F6 : Fr (only g) w2 w6 := (f3.trans f4 (fun _ _ h => h)).trans (f5.trans f6 (fun _ _ h => h)) (fun _ _ h => h)
    have bR6 := bR2.fr F6 (fun h => by have h9 : w.heap.size = g := h; omega)
    have B6 := Bl.trans B3 (Bl.of_fr F6 B3.size (fun k h => by have h9 : k = g := h; omega))
    have T6 := hT.below B6
    clear f3 f4 f5 f6 F6 R R3 R4 R5 bR2 B3 T2
    go_upto_region 6 with fail
    have bO7 := Blk.new w6 #[.bool (decide (128 ≤ a1)), .int .i64 (a1 % 128), .int .u32 N, .int .u16 P, .string ⟨#[]⟩, .string ⟨#[]⟩] 30
    have bR7 := bR6.alloc (.cells #[.bool (decide (128 ≤ a1)), .int .i64 (a1 % 128), .int .u32 N, .int .u16 P, .string ⟨#[]⟩, .string ⟨#[]⟩] 30)
    have R7 := Rdr.fr R6 ((Fr.refl nothing w6).alloc (.cells #[.bool (decide (128 ≤ a1)), .int .i64 (a1 % 128), .int .u32 N, .int .u16 P, .string ⟨#[]⟩, .string ⟨#[]⟩] 30)) id (fun _ _ _ h => h)
    have B7 := B6.alloc B6.size (.cells #[.bool (decide (128 ≤ a1)), .int .i64 (a1 % 128), .int .u32 N, .int .u16 P, .string ⟨#[]⟩, .string ⟨#[]⟩] 30)
    have hgo : g < w6.heap.size := by have := R6.choose_spec.1.lt; omega
    have hRo : w.heap.size ≠ w6.heap.size := by have := bR6.lt; omega
    generalize w6.alloc (.cells #[.bool (decide (128 ≤ a1)), .int .i64 (a1 % 128), .int .u32 N, .int .u16 P, .string ⟨#[]⟩, .string ⟨#[]⟩] 30) = w7 at *
    generalize w6.heap.size = O at *
    clear R6 bR6 B6 T6
    have P5 := u16_calls g _ _ _ false w7 R7 I4 R7.choose_spec.1.lt
    unfold Num1P at P5
    rw [(tk_in (xs := [a8, a9]) (n := 2) rfl).1, (tk_in (xs := [a8, a9]) (n := 2) rfl).2.1, (tk_in (xs := [a8, a9]) (n := 2) rfl).2.2, hAz] at P5
    have HP5 := Lib.hid P5
    clear P5
    go_wp2_with fail
    refine HP5.out.mono ?_
    rintro e w8 ⟨rfl, R8, f8⟩
    clear HP5
    have P6 := u16_calls g _ _ _ false w8 R8 I5 R8.choose_spec.1.lt
    unfold Num1P at P6
    rw [(tk_in (xs := [a10, a11]) (n := 2) rfl).1, (tk_in (xs := [a10, a11]) (n := 2) rfl).2.1, (tk_in (xs := [a10, a11]) (n := 2) rfl).2.2, hBz] at P6
    have HP6 := Lib.hid P6
    clear P6
    go_wp2_with fail
    refine HP6.out.mono ?_
    rintro e w9 ⟨rfl, R9, f9⟩
    clear HP6
    have F9 := f8.trans f9 (fun _ _ h => h)
    have bR9 := bR7.fr F9 (fun h => by have h9 : w.heap.size = g := h; omega)
    have bO9 := bO7.fr F9 (fun h => by have h9 : O = g := h; omega)
    have B9 := Bl.trans B7 (Bl.of_fr F9 B7.size (fun k h => by have h9 : k = g := h; omega))
    have T9 := hT.below B9
    have cO1 := bO9.cell 1
    have cO2 := bO9.cell 2
    simp at cO1 cO2
    clear f8 f9 F9 R7 R8 bR7 bO7 B7 I0 I1 I2 I3 I4 hlb hkb hNz hPz hAz hBz z0 z1
    go_upto_region 7 with fail
    by_cases h3 : a0 = 3
    · have hne : (a0 != 3) = false := by simp [h3]
      rcases hq : rightB (a1 % 128) N with _ | _
      · have hE : gE bs = 60 := by rw [hGE.out, if_pos (.inr hq)]
        have HE := Lib.hid hE
        have HV := Lib.hid (gV_bad (bs := bs) (by rw [hE]; decide))
        have CR := right_calls (a1 % 128) N w9
        rw [hq] at CR
        have HCR := Lib.hid CR
        clear hE h3 CR
        go_wp2_with fail
        refine HCR.out.mono ?_
        rintro e w10 ⟨rfl, B10⟩
        have bR10 := Blk.fr bR9 (Fr.of_below (S := nothing) B10) id
        have B11 := Bl.trans B9 (Bl.low B10 B9.size)
        clear HCR
        go_upto_region 8 with fail
        refine wp_region_lit ?_
        refine wpList_plain rfl (fun K hK => ?_)
        go_simp
        refine hK _ _ ?_
        clear hK K
        refine wpList_plain rfl (fun K hK => ?_)
        refine oper_store (cs0 := #[.bool false, .int .i64 0, .int .u32 0, .int .u16 0, .string ⟨#[]⟩, .string ⟨#[]⟩]) rfl rfl rfl bR10 (by kernel_rfl) rfl (by simp [Value.oneCell']) ?_
        refine hK _ _ ?_
        clear hK K
        refine wpList_plain rfl (fun K hK => ?_)
        go_simp
        refine hK _ _ ?_
        clear hK K
        refine wpList_nil ?_
        have bZ := blk_row #[.bool false, .int .i64 0, .int .u32 0, .int .u16 0, .string ⟨#[]⟩, .string ⟨#[]⟩] bR10
        have fZ := fr_row (w := w10) w.heap.size #[.bool false, .int .i64 0, .int .u32 0, .int .u16 0, .string ⟨#[]⟩, .string ⟨#[]⟩]
        generalize World.setRow w10 w.heap.size #[.bool false, .int .i64 0, .int .u32 0, .int .u16 0, .string ⟨#[]⟩, .string ⟨#[]⟩] = wz at *
        go_wp2
        (try simp only [Exit.inBlock, Exit.then])
        refine bodyPost_ret (results_blk rfl _ rfl bZ hup rfl (by kernel_rfl)) rfl ?_
        rw [HE.out, HV.out]
        exact ⟨rfl, Bl.trans B11 (Bl.of_fr fZ (B11).size (fun k h => by have h9 : k = w.heap.size := h; omega))⟩
      · have hnq : ¬ (a0 ≠ 3 ∨ rightB (a1 % 128) N = false) := by rw [hq]; simp [h3]
        have CR := right_calls (a1 % 128) N w9
        rw [hq] at CR
        have HCR := Lib.hid CR
        replace hGE := Lib.hid (show gE bs = _ by rw [hGE.out, if_neg hnq])
        clear h3 CR hnq
        go_wp2_with fail
        refine HCR.out.mono ?_
        rintro e w10 ⟨rfl, B10⟩
        have f10 : Fr nothing w9 w10 := Fr.of_below B10
        have bR10 := bR9.fr f10 id
        have bO10 := bO9.fr f10 id
        have R10 := R9.fr f10 id (fun _ _ _ h => h)
        have B11 := Bl.trans B9 (Bl.low B10 B9.size)
        have T11 := hT.below B11
        clear HCR f10 B10 bR9 bO9 R9 B9 T9 cO1 cO2
        go_upto_region 9 with fail
        by_cases h4 : 255 < nA ∨ 255 < nB
        · have hE : gE bs = 43 := by rw [hGE.out, if_pos h4]
          have HE := Lib.hid hE
          have HV := Lib.hid (gV_bad (bs := bs) (by rw [hE]; decide))
          clear hE
          by_cases h5 : 255 < nA
          · have hd5 : decide ((255 : Int) < nA) = true := decide_eq_true (by omega)
            clear h4 h5
            go_upto_region 10 with fail
            refine wp_region_lit ?_
            refine wpList_plain rfl (fun K hK => ?_)
            go_simp
            refine hK _ _ ?_
            clear hK K
            refine wpList_plain rfl (fun K hK => ?_)
            refine oper_store (cs0 := #[.bool false, .int .i64 0, .int .u32 0, .int .u16 0, .string ⟨#[]⟩, .string ⟨#[]⟩]) rfl rfl rfl bR10 (by kernel_rfl) rfl (by simp [Value.oneCell']) ?_
            refine hK _ _ ?_
            clear hK K
            refine wpList_plain rfl (fun K hK => ?_)
            go_simp
            refine hK _ _ ?_
            clear hK K
            refine wpList_nil ?_
            have bZ := blk_row #[.bool false, .int .i64 0, .int .u32 0, .int .u16 0, .string ⟨#[]⟩, .string ⟨#[]⟩] bR10
            have fZ := fr_row (w := w10) w.heap.size #[.bool false, .int .i64 0, .int .u32 0, .int .u16 0, .string ⟨#[]⟩, .string ⟨#[]⟩]
            generalize World.setRow w10 w.heap.size #[.bool false, .int .i64 0, .int .u32 0, .int .u16 0, .string ⟨#[]⟩, .string ⟨#[]⟩] = wz at *
            go_wp2
            (try simp only [Exit.inBlock, Exit.then])
            refine bodyPost_ret (results_blk rfl _ rfl bZ hup rfl (by kernel_rfl)) rfl ?_
            rw [HE.out, HV.out]
            exact ⟨rfl, Bl.trans B11 (Bl.of_fr fZ (B11).size (fun k h => by have h9 : k = w.heap.size := h; omega))⟩
          · have hd5 : decide ((255 : Int) < nA) = false := decide_eq_false (by omega)
            have hd6 : decide ((255 : Int) < nB) = true := decide_eq_true (by omega)
            clear h4 h5
            go_upto_region 10 with fail
            refine wp_region_lit ?_
            refine wpList_plain rfl (fun K hK => ?_)
            go_simp
            refine hK _ _ ?_
            clear hK K
            refine wpList_plain rfl (fun K hK => ?_)
            refine oper_store (cs0 := #[.bool false, .int .i64 0, .int .u32 0, .int .u16 0, .string ⟨#[]⟩, .string ⟨#[]⟩]) rfl rfl rfl bR10 (by kernel_rfl) rfl (by simp [Value.oneCell']) ?_
            refine hK _ _ ?_
            clear hK K
            refine wpList_plain rfl (fun K hK => ?_)
            go_simp
            refine hK _ _ ?_
            clear hK K
            refine wpList_nil ?_
            have bZ := blk_row #[.bool false, .int .i64 0, .int .u32 0, .int .u16 0, .string ⟨#[]⟩, .string ⟨#[]⟩] bR10
            have fZ := fr_row (w := w10) w.heap.size #[.bool false, .int .i64 0, .int .u32 0, .int .u16 0, .string ⟨#[]⟩, .string ⟨#[]⟩]
            generalize World.setRow w10 w.heap.size #[.bool false, .int .i64 0, .int .u32 0, .int .u16 0, .string ⟨#[]⟩, .string ⟨#[]⟩] = wz at *
            go_wp2
            (try simp only [Exit.inBlock, Exit.then])
            refine bodyPost_ret (results_blk rfl _ rfl bZ hup rfl (by kernel_rfl)) rfl ?_
            rw [HE.out, HV.out]
            exact ⟨rfl, Bl.trans B11 (Bl.of_fr fZ (B11).size (fun k h => by have h9 : k = w.heap.size := h; omega))⟩
        · have hd5 : decide ((255 : Int) < nA) = false := decide_eq_false (by omega)
          have hd6 : decide ((255 : Int) < nB) = false := decide_eq_false (by omega)
          replace hGE := Lib.hid (show gE bs = _ by rw [hGE.out, if_neg h4])
          have hA5 : nA ≤ 255 := by omega
          have hB5 : nB ≤ 255 := by omega
          clear h4
          go_upto_region 11 with fail
          obtain ⟨r1, hr1⟩ : ∃ x, lf r nA = x := ⟨_, rfl⟩
          obtain ⟨b1, hb1⟩ : ∃ x, bd r false nA = x := ⟨_, rfl⟩
          obtain ⟨s1, hs1⟩ : ∃ x, tk r nA = x := ⟨_, rfl⟩
          obtain ⟨r2, hr2⟩ : ∃ x, lf r1 nB = x := ⟨_, rfl⟩
          obtain ⟨b2, hb2⟩ : ∃ x, bd r1 b1 nB = x := ⟨_, rfl⟩
          obtain ⟨s2, hs2⟩ : ∃ x, tk r1 nB = x := ⟨_, rfl⟩
          obtain ⟨L1, hL1⟩ : ∃ x, bstr s1 = x := ⟨_, rfl⟩
          obtain ⟨L2, hL2⟩ : ∃ x, bstr s2 = x := ⟨_, rfl⟩
          have HS := Lib.hid (And.intro hr1 (And.intro hb1 (And.intro hs1 (And.intro hr2 (And.intro hb2 (And.intro hs2 (And.intro hL1 hL2)))))))
          clear hr1 hb1 hs1 hr2 hb2 hs2 hL1 hL2
          refine wp_region_any (by kernel_rfl) ?_
          refine Reg.wpAny_inv (I := fun listed act wq => ∃ (c0 c1 c2 c3 c4 c5 c6 c7 c8 c9 c10 c11 : Bool) (q1 q2 : Value) (rs : List Int) (bb : Bool), listed = #[c0, c1, c2, c3, c4, c5, c6, c7, c8, c9, c10, c11] ∧ act = ⟨#[.slice A bs.length c, undef, .pointer (some ⟨w.heap.size, 0, none⟩), .int .i64 0, .pointer (some ⟨g, 0, none⟩), .int .u8 a0, .int .u8 a1, .pointer (some ⟨O, 0, none⟩), .int .i64 nA, .int .i64 nB, undef, .slice A bs.length c, .int .i64 bs.length, .bool false, undef, .slice A bs.length c, .pointer (some ⟨g, 0, none⟩), .pointer (some ⟨g, 0, none⟩), .int .u8 a0, .pointer (some ⟨g, 0, none⟩), .int .u8 a1, .int .u8 a1, .int .u8 (bits BinOp.and .u8 a1 128), .bool (decide (128 ≤ a1)), .pointer (some ⟨g, 0, none⟩), .int .u16 P, .int .u8 a1, .int .u8 (a1 % 128), .int .i64 (a1 % 128), .pointer (some ⟨g, 0, none⟩), .int .u32 N, .agg #[.int .i64 (a1 % 128), .int .u32 N], .agg #[.bool (decide (128 ≤ a1)), .int .i64 (a1 % 128), .int .u32 N, .int .u16 P, .string ⟨#[]⟩, .string ⟨#[]⟩], .pointer (some ⟨g, 0, none⟩), .int .u16 nA, .int .i64 nA, .pointer (some ⟨g, 0, none⟩), .int .u16 nB, .int .i64 nB, .bool false, .int .u8 a0, .bool false, .bool false, .pointer (some ⟨O, 1, none⟩), .agg #[.int .i64 (a1 % 128), .int .u32 N], .bool true, .bool false, .bool false, undef, .bool false, .int .i64 nA, .bool false, .bool false, .int .i64 nB, .bool false, .bool false, undef, (bif c0 then (.pointer (some ⟨g, 0, none⟩)) else undef), (bif c1 then (.int .i64 nA) else undef), (bif c2 then (q1) else undef), (bif c3 then (.string L1) else undef), (bif c4 then (.pointer (some ⟨g, 0, none⟩)) else undef), (bif c5 then (.int .i64 nB) else undef), (bif c6 then (q2) else undef), (bif c7 then (.string L2) else undef), (bif c8 then (.pointer (some ⟨O, 4, none⟩)) else undef), (bif c10 then (.pointer (some ⟨O, 5, none⟩)) else undef), undef, undef, undef, undef, undef, undef, undef, undef, undef, undef, undef], []⟩ ∧ Blk wq w.heap.size 30 #[.bool false, .int .i64 0, .int .u32 0, .int .u16 0, .string ⟨#[]⟩, .string ⟨#[]⟩] ∧ Blk wq O 30 #[.bool (decide (128 ≤ a1)), .int .i64 (a1 % 128), .int .u32 N, .int .u16 P, (bif c9 then .string L1 else .string ⟨#[]⟩), (bif c11 then .string L2 else .string ⟨#[]⟩)] ∧ Below w.heap.size w wq ∧ w10.heap.size ≤ wq.heap.size ∧ Rdr wq g w1s m rs bb ∧ (c2 = false → rs = r ∧ bb = false) ∧ (c2 = true → c6 = false → rs = r1 ∧ bb = b1) ∧ (c6 = true → c2 = true ∧ rs = r2 ∧ bb = b2) ∧ (c2 = true → OwnB wq w10.heap.size 5 q1 s1) ∧ (c6 = true → OwnB wq w10.heap.size 5 q2 s2)) ?_ ?_ _ _ _ _ (by decide) ?_
          · intro i o listed act wq hi hI hun hdeps K hK
            obtain ⟨c0, c1, c2, c3, c4, c5, c6, c7, c8, c9, c10, c11, q1, q2, rs, bb, rfl, rfl, hZ, hO, hB, hW, hR, R0, R1, R2, O1, O2⟩ := hI
            have hlt : i < 12 := (Array.getElem?_eq_some_iff.1 hi).1
            rcases (show i = 0 ∨ i = 1 ∨ i = 2 ∨ i = 3 ∨ i = 4 ∨ i = 5 ∨ i = 6 ∨ i = 7 ∨ i = 8 ∨ i = 9 ∨ i = 10 ∨ i = 11 by omega) with rfl | rfl | rfl | rfl | rfl | rfl | rfl | rfl | rfl | rfl | rfl | rfl
            · skip
              obtain rfl : _ = o := Option.some.inj hi
              obtain rfl : c0 = false := by simpa using hun
              clear hun hdeps hi
              go_simp
              exact hK _ _ ⟨true, c1, c2, c3, c4, c5, c6, c7, c8, c9, c10, c11, _, _, _, _, rfl, rfl, hZ, hO, hB, hW, hR, R0, R1, R2, O1, O2⟩
            · skip
              obtain rfl : _ = o := Option.some.inj hi
              obtain rfl : c1 = false := by simpa using hun
              clear hun hdeps hi
              go_simp
              exact hK _ _ ⟨c0, true, c2, c3, c4, c5, c6, c7, c8, c9, c10, c11, _, _, _, _, rfl, rfl, hZ, hO, hB, hW, hR, R0, R1, R2, O1, O2⟩
            · skip
              obtain rfl : _ = o := Option.some.inj hi
              obtain rfl : c2 = false := by simpa using hun
              obtain rfl : c0 = true := hdeps _ (Array.mem_of_getElem? (i := 0) rfl) rfl
              obtain rfl : c1 = true := hdeps _ (Array.mem_of_getElem? (i := 1) rfl) rfl
              clear hun hdeps hi
              have hc6 : c6 = false := Bool.eq_false_iff.2 (fun h => by have := (R2 h).1; cases this)
              subst hc6
              have HC := Lib.hid (take_calls g w1s m rs bb nA wq hR)
              obtain ⟨er, eb⟩ := R0 rfl
              go_simp
              go_at_call 22
              refine HC.out.mono ?_
              rintro e w' ⟨v', rfl, o1, Rn, f1⟩
              clear HC
              go_simp
              rw [er, eb] at Rn
              rw [er] at o1
              rw [HS.out.1, HS.out.2.1] at Rn
              rw [HS.out.2.2.1] at o1
              exact hK _ _ ⟨true, true, true, c3, c4, c5, false, c7, c8, c9, c10, c11, v', q2, r1, b1, rfl, rfl, hZ.fr f1 (fun h => by have h9 : w.heap.size = g := h; omega), hO.fr f1 (fun h => by have h9 : O = g := h; omega), Bl.trans hB (Bl.of_fr f1 hB.size (fun k h => by have h9 : k = g := h; omega)), Nat.le_trans hW f1.size, Rn, (fun h => by cases h), (fun _ _ => ⟨rfl, rfl⟩), (fun h => by cases h), (fun _ => OwnB.low o1 hW), (fun h => by cases h)⟩
            · skip
              obtain rfl : _ = o := Option.some.inj hi
              obtain rfl : c3 = false := by simpa using hun
              obtain rfl : c2 = true := hdeps _ (Array.mem_of_getElem? (i := 0) rfl) rfl
              clear hun hdeps hi
              have oq := O1 rfl
              obtain ⟨Aq, nq, kq, eq, hnq, cv⟩ := OwnB.str oq
              subst eq
              rw [show bstr s1 = L1 from HS.out.2.2.2.2.2.2.1] at cv
              clear hnq
              go_simp
              exact hK _ _ ⟨c0, c1, true, true, c4, c5, c6, c7, c8, c9, c10, c11, _, _, _, _, rfl, rfl, hZ, hO, hB, hW, hR, R0, R1, R2, O1, O2⟩
            · skip
              obtain rfl : _ = o := Option.some.inj hi
              obtain rfl : c4 = false := by simpa using hun
              clear hun hdeps hi
              go_simp
              exact hK _ _ ⟨c0, c1, c2, c3, true, c5, c6, c7, c8, c9, c10, c11, _, _, _, _, rfl, rfl, hZ, hO, hB, hW, hR, R0, R1, R2, O1, O2⟩
            · skip
              obtain rfl : _ = o := Option.some.inj hi
              obtain rfl : c5 = false := by simpa using hun
              clear hun hdeps hi
              go_simp
              exact hK _ _ ⟨c0, c1, c2, c3, c4, true, c6, c7, c8, c9, c10, c11, _, _, _, _, rfl, rfl, hZ, hO, hB, hW, hR, R0, R1, R2, O1, O2⟩
            · skip
              obtain rfl : _ = o := Option.some.inj hi
              obtain rfl : c6 = false := by simpa using hun
              obtain rfl : c4 = true := hdeps _ (Array.mem_of_getElem? (i := 0) rfl) rfl
              obtain rfl : c5 = true := hdeps _ (Array.mem_of_getElem? (i := 1) rfl) rfl
              obtain rfl : c2 = true := hdeps _ (Array.mem_of_getElem? (i := 2) rfl) rfl
              clear hun hdeps hi
              have HC := Lib.hid (take_calls g w1s m rs bb nB wq hR)
              obtain ⟨er, eb⟩ := R1 rfl rfl
              have hRb := hR.choose_spec.1
              go_simp
              go_at_call 22
              refine HC.out.mono ?_
              rintro e w' ⟨v', rfl, o1, Rn, f1⟩
              clear HC
              go_simp
              rw [er, eb] at Rn
              rw [er] at o1
              rw [HS.out.2.2.2.1, HS.out.2.2.2.2.1] at Rn
              rw [HS.out.2.2.2.2.2.1] at o1
              exact hK _ _ ⟨c0, c1, true, c3, true, true, true, c7, c8, c9, c10, c11, q1, v', r2, b2, rfl, rfl, hZ.fr f1 (fun h => by have h9 : w.heap.size = g := h; omega), hO.fr f1 (fun h => by have h9 : O = g := h; omega), Bl.trans hB (Bl.of_fr f1 hB.size (fun k h => by have h9 : k = g := h; omega)), Nat.le_trans hW f1.size, Rn, (fun h => by cases h), (fun _ h => by cases h), (fun _ => ⟨rfl, rfl, rfl⟩), (fun h => OwnB.fr (O1 h) f1 (fun k h1 h2 => by have h9 : k = g := h2; exact OwnB.ne (O1 h) hRb (by decide) (h9 ▸ h1))), (fun _ => OwnB.low o1 hW)⟩
            · skip
              obtain rfl : _ = o := Option.some.inj hi
              obtain rfl : c7 = false := by simpa using hun
              obtain rfl : c6 = true := hdeps _ (Array.mem_of_getElem? (i := 0) rfl) rfl
              clear hun hdeps hi
              obtain rfl : c2 = true := (R2 rfl).1
              have oq := O2 rfl
              obtain ⟨Aq, nq, kq, eq, hnq, cv⟩ := OwnB.str oq
              subst eq
              rw [show bstr s2 = L2 from HS.out.2.2.2.2.2.2.2] at cv
              clear hnq
              go_simp
              exact hK _ _ ⟨c0, c1, true, c3, c4, c5, true, true, c8, c9, c10, c11, _, _, _, _, rfl, rfl, hZ, hO, hB, hW, hR, R0, R1, R2, O1, O2⟩
            · skip
              obtain rfl : _ = o := Option.some.inj hi
              obtain rfl : c8 = false := by simpa using hun
              obtain rfl : c0 = true := hdeps _ (Array.mem_of_getElem? (i := 0) rfl) rfl
              obtain rfl : c1 = true := hdeps _ (Array.mem_of_getElem? (i := 1) rfl) rfl
              obtain rfl : c2 = true := hdeps _ (Array.mem_of_getElem? (i := 2) rfl) rfl
              obtain rfl : c3 = true := hdeps _ (Array.mem_of_getElem? (i := 3) rfl) rfl
              clear hun hdeps hi
              go_simp
              exact hK _ _ ⟨true, true, true, true, c4, c5, c6, c7, true, c9, c10, c11, _, _, _, _, rfl, rfl, hZ, hO, hB, hW, hR, R0, R1, R2, O1, O2⟩
            · skip
              obtain rfl : _ = o := Option.some.inj hi
              obtain rfl : c9 = false := by simpa using hun
              obtain rfl : c8 = true := hdeps _ (Array.mem_of_getElem? (i := 0) rfl) rfl
              obtain rfl : c3 = true := hdeps _ (Array.mem_of_getElem? (i := 1) rfl) rfl
              obtain rfl : c6 = true := hdeps _ (Array.mem_of_getElem? (i := 2) rfl) rfl
              clear hun hdeps hi
              obtain rfl : c2 = true := (R2 rfl).1
              have cq := hO.cell 4
              have fq := hO.frozen 4
              simp at cq
              have hS := hO.set 4 (.string L1)
              have f1 : Fr (only O) wq (wq.setCell ⟨O, 4, none⟩ (.string L1)) := (Fr.refl _ _).set_only 4 none _
              have hOo := hO
              go_simp
              exact hK _ _ ⟨c0, c1, true, true, c4, c5, true, c7, true, true, c10, c11, _, _, _, _, rfl, rfl, hZ.fr f1 (fun h => by have h9 : w.heap.size = O := h; omega), hS, Bl.trans hB (Bl.of_fr f1 hB.size (fun k h => by have h9 : k = O := h; omega)), Nat.le_trans hW f1.size, hR.fr f1 (fun h => by have h9 : g = O := h; omega) (fun k h1 h2 h3 => by have h9 : k = O := h3; omega), R0, R1, R2, (fun h => OwnB.fr (O1 h) f1 (fun k h1 h2 => by have h9 : k = O := h2; exact OwnB.ne (O1 h) hOo (by decide) (h9 ▸ h1))), (fun h => OwnB.fr (O2 h) f1 (fun k h1 h2 => by have h9 : k = O := h2; exact OwnB.ne (O2 h) hOo (by decide) (h9 ▸ h1)))⟩
            · skip
              obtain rfl : _ = o := Option.some.inj hi
              obtain rfl : c10 = false := by simpa using hun
              obtain rfl : c0 = true := hdeps _ (Array.mem_of_getElem? (i := 0) rfl) rfl
              obtain rfl : c1 = true := hdeps _ (Array.mem_of_getElem? (i := 1) rfl) rfl
              obtain rfl : c2 = true := hdeps _ (Array.mem_of_getElem? (i := 2) rfl) rfl
              obtain rfl : c3 = true := hdeps _ (Array.mem_of_getElem? (i := 3) rfl) rfl
              obtain rfl : c4 = true := hdeps _ (Array.mem_of_getElem? (i := 4) rfl) rfl
              obtain rfl : c5 = true := hdeps _ (Array.mem_of_getElem? (i := 5) rfl) rfl
              obtain rfl : c6 = true := hdeps _ (Array.mem_of_getElem? (i := 6) rfl) rfl
              obtain rfl : c7 = true := hdeps _ (Array.mem_of_getElem? (i := 7) rfl) rfl
              obtain rfl : c8 = true := hdeps _ (Array.mem_of_getElem? (i := 8) rfl) rfl
              obtain rfl : c9 = true := hdeps _ (Array.mem_of_getElem? (i := 9) rfl) rfl
              clear hun hdeps hi
              go_simp
              exact hK _ _ ⟨true, true, true, true, true, true, true, true, true, true, true, c11, _, _, _, _, rfl, rfl, hZ, hO, hB, hW, hR, R0, R1, R2, O1, O2⟩
            · skip
              obtain rfl : _ = o := Option.some.inj hi
              obtain rfl : c11 = false := by simpa using hun
              obtain rfl : c10 = true := hdeps _ (Array.mem_of_getElem? (i := 0) rfl) rfl
              obtain rfl : c7 = true := hdeps _ (Array.mem_of_getElem? (i := 1) rfl) rfl
              obtain rfl : c9 = true := hdeps _ (Array.mem_of_getElem? (i := 2) rfl) rfl
              obtain rfl : c0 = true := hdeps _ (Array.mem_of_getElem? (i := 3) rfl) rfl
              obtain rfl : c1 = true := hdeps _ (Array.mem_of_getElem? (i := 4) rfl) rfl
              obtain rfl : c2 = true := hdeps _ (Array.mem_of_getElem? (i := 5) rfl) rfl
              obtain rfl : c3 = true := hdeps _ (Array.mem_of_getElem? (i := 6) rfl) rfl
              obtain rfl : c4 = true := hdeps _ (Array.mem_of_getElem? (i := 7) rfl) rfl
              obtain rfl : c5 = true := hdeps _ (Array.mem_of_getElem? (i := 8) rfl) rfl
              obtain rfl : c6 = true := hdeps _ (Array.mem_of_getElem? (i := 9) rfl) rfl
              obtain rfl : c8 = true := hdeps _ (Array.mem_of_getElem? (i := 11) rfl) rfl
              clear hun hdeps hi
              have cq := hO.cell 5
              have fq := hO.frozen 5
              simp at cq
              have hS := hO.set 5 (.string L2)
              have f1 : Fr (only O) wq (wq.setCell ⟨O, 5, none⟩ (.string L2)) := (Fr.refl _ _).set_only 5 none _
              have hOo := hO
              go_simp
              exact hK _ _ ⟨true, true, true, true, true, true, true, true, true, true, true, true, _, _, _, _, rfl, rfl, hZ.fr f1 (fun h => by have h9 : w.heap.size = O := h; omega), hS, Bl.trans hB (Bl.of_fr f1 hB.size (fun k h => by have h9 : k = O := h; omega)), Nat.le_trans hW f1.size, hR.fr f1 (fun h => by have h9 : g = O := h; omega) (fun k h1 h2 h3 => by have h9 : k = O := h3; omega), R0, R1, R2, (fun h => OwnB.fr (O1 h) f1 (fun k h1 h2 => by have h9 : k = O := h2; exact OwnB.ne (O1 h) hOo (by decide) (h9 ▸ h1))), (fun h => OwnB.fr (O2 h) f1 (fun k h1 h2 => by have h9 : k = O := h2; exact OwnB.ne (O2 h) hOo (by decide) (h9 ▸ h1)))⟩
          · intro listed act wq hI hr0
            obtain ⟨c0, c1, c2, c3, c4, c5, c6, c7, c8, c9, c10, c11, q1, q2, rs, bb, rfl, rfl, hZ, hO, hB, hW, hR, R0, R1, R2, O1, O2⟩ := hI
            have hall := Reg.all_of_done (by kernel_rfl) rfl hr0
            obtain rfl : c0 = true := hall 0 (by decide)
            obtain rfl : c1 = true := hall 1 (by decide)
            obtain rfl : c2 = true := hall 2 (by decide)
            obtain rfl : c3 = true := hall 3 (by decide)
            obtain rfl : c4 = true := hall 4 (by decide)
            obtain rfl : c5 = true := hall 5 (by decide)
            obtain rfl : c6 = true := hall 6 (by decide)
            obtain rfl : c7 = true := hall 7 (by decide)
            obtain rfl : c8 = true := hall 8 (by decide)
            obtain rfl : c9 = true := hall 9 (by decide)
            obtain rfl : c10 = true := hall 10 (by decide)
            obtain rfl : c11 = true := hall 11 (by decide)
            obtain ⟨-, er, eb⟩ := R2 rfl
            rw [er, eb] at hR
            clear hall hr0 R0 R1 R2 O1 O2 er eb
            simp only [cond_true] at hO ⊢
            have hEnd : endOf r2 b2 = (if r.length < nA + nB then 40 else if nA + nB < r.length then 41 else 0) := by
              rw [← HS.out.2.2.2.1, ← HS.out.2.2.2.2.1, ← HS.out.1, ← HS.out.2.1]
              exact end_two r nA nB
            have CE := end_calls g w1s m r2 b2 wq hR
            clear hR
            by_cases q1 : r.length < nA + nB
            · rw [if_pos q1] at hEnd
              rw [hEnd] at CE
              have HCE := Lib.hid CE
              have hE : gE bs = 40 := by rw [hGE.out, if_pos q1]
              have HE := Lib.hid hE
              have HV := Lib.hid (gV_bad (bs := bs) (by rw [hE]; decide))
              clear hE q1 CE hEnd
              go_wp2_with fail
              refine HCE.out.mono ?_
              rintro e wx ⟨rfl, rfl⟩
              go_upto_region 16 with fail
              refine wp_region_lit ?_
              refine wpList_plain rfl (fun K hK => ?_)
              go_simp
              refine hK _ _ ?_
              clear hK K
              refine wpList_plain rfl (fun K hK => ?_)
              go_simp
              refine hK _ _ ?_
              clear hK K
              refine wpList_plain rfl (fun K hK => ?_)
              refine oper_store (cs0 := #[.bool false, .int .i64 0, .int .u32 0, .int .u16 0, .string ⟨#[]⟩, .string ⟨#[]⟩]) rfl rfl rfl hZ (by kernel_rfl) rfl (by simp [Value.oneCell']) ?_
              refine hK _ _ ?_
              clear hK K
              refine wpList_plain rfl (fun K hK => ?_)
              go_simp
              refine hK _ _ ?_
              clear hK K
              refine wpList_nil ?_
              have bZ := blk_row #[.bool false, .int .i64 0, .int .u32 0, .int .u16 0, .string ⟨#[]⟩, .string ⟨#[]⟩] hZ
              have fZ := fr_row (w := wx) w.heap.size #[.bool false, .int .i64 0, .int .u32 0, .int .u16 0, .string ⟨#[]⟩, .string ⟨#[]⟩]
              generalize World.setRow wx w.heap.size #[.bool false, .int .i64 0, .int .u32 0, .int .u16 0, .string ⟨#[]⟩, .string ⟨#[]⟩] = wz at *
              go_wp2
              (try simp only [Exit.inBlock, Exit.then])
              refine bodyPost_ret (results_blk rfl _ rfl bZ hup rfl (by kernel_rfl)) rfl ?_
              rw [HE.out, HV.out]
              exact ⟨rfl, Bl.trans hB (Bl.of_fr fZ (hB).size (fun k h => by have h9 : k = w.heap.size := h; omega))⟩
            · rw [if_neg q1] at hEnd
              by_cases q2 : nA + nB < r.length
              · rw [if_pos q2] at hEnd
                rw [hEnd] at CE
                have HCE := Lib.hid CE
                have hE : gE bs = 41 := by rw [hGE.out, if_neg q1, if_pos q2]
                have HE := Lib.hid hE
                have HV := Lib.hid (gV_bad (bs := bs) (by rw [hE]; decide))
                clear hE q1 q2 CE hEnd
                go_wp2_with fail
                refine HCE.out.mono ?_
                rintro e wx ⟨rfl, rfl⟩
                go_upto_region 16 with fail
                refine wp_region_lit ?_
                refine wpList_plain rfl (fun K hK => ?_)
                go_simp
                refine hK _ _ ?_
                clear hK K
                refine wpList_plain rfl (fun K hK => ?_)
                go_simp
                refine hK _ _ ?_
                clear hK K
                refine wpList_plain rfl (fun K hK => ?_)
                refine oper_store (cs0 := #[.bool false, .int .i64 0, .int .u32 0, .int .u16 0, .string ⟨#[]⟩, .string ⟨#[]⟩]) rfl rfl rfl hZ (by kernel_rfl) rfl (by simp [Value.oneCell']) ?_
                refine hK _ _ ?_
                clear hK K
                refine wpList_plain rfl (fun K hK => ?_)
                go_simp
                refine hK _ _ ?_
                clear hK K
                refine wpList_nil ?_
                have bZ := blk_row #[.bool false, .int .i64 0, .int .u32 0, .int .u16 0, .string ⟨#[]⟩, .string ⟨#[]⟩] hZ
                have fZ := fr_row (w := wx) w.heap.size #[.bool false, .int .i64 0, .int .u32 0, .int .u16 0, .string ⟨#[]⟩, .string ⟨#[]⟩]
                generalize World.setRow wx w.heap.size #[.bool false, .int .i64 0, .int .u32 0, .int .u16 0, .string ⟨#[]⟩, .string ⟨#[]⟩] = wz at *
                go_wp2
                (try simp only [Exit.inBlock, Exit.then])
                refine bodyPost_ret (results_blk rfl _ rfl bZ hup rfl (by kernel_rfl)) rfl ?_
                rw [HE.out, HV.out]
                exact ⟨rfl, Bl.trans hB (Bl.of_fr fZ (hB).size (fun k h => by have h9 : k = w.heap.size := h; omega))⟩
              · rw [if_neg q2] at hEnd
                rw [hEnd] at CE
                have HCE := Lib.hid CE
                have eT1 : L1 = bstr (r.take nA) := by rw [← HS.out.2.2.2.2.2.2.1, ← HS.out.2.2.1, tk_nat r nA (by omega)]
                have eT2 : L2 = bstr ((r.drop nA).take nB) := by rw [← HS.out.2.2.2.2.2.2.2, ← HS.out.2.2.2.2.2.1, ← HS.out.1, lf_nat r nA (by omega), tk_nat _ nB (by simp; omega)]
                have hz1 : L1.size ≤ 255 := by rw [eT1, bstr_size]; simp; omega
                have hz2 : L2.size ≤ 255 := by rw [eT2, bstr_size]; simp; omega
                have hTE : textE L1 L2 = gE bs := by
                  rw [hGE.out, if_neg q1, if_neg q2, ← eT1, ← eT2]
                  unfold textE
                  rw [if_neg (by omega)]
                have HVO := Lib.hid (show gE bs = 0 → gV bs = #[.bool (decide (128 ≤ a1)), .int .i64 (a1 % 128), .int .u32 N, .int .u16 P, .string L1, .string L2] from fun h => by rw [hVV.out h, ← eT1, ← eT2]; rfl)
                have HTX := Lib.hid (texts_calls (decide (128 ≤ a1)) (a1 % 128) N P L1 L2 wq (hT.below hB) (by omega) (by omega))
                have HTE := Lib.hid hTE
                clear q1 q2 CE hEnd eT1 eT2 hz1 hz2 hTE
                go_wp2_with fail
                refine HCE.out.mono ?_
                rintro e wx ⟨rfl, rfl⟩
                clear HCE
                go_upto_region 14 with fail
                refine wp_region_lit ?_
                refine wpList_plain rfl (fun K hK => ?_)
                refine oper_load rfl rfl hO hup rfl (by kernel_rfl) ?_
                refine hK _ _ ?_
                clear hK K
                go_wp2_with fail
                refine HTX.out.mono ?_
                rintro e wy ⟨rfl, By⟩
                have hZy := Blk.fr hZ (Fr.of_below (S := nothing) By) id
                have hOy := Blk.fr hO (Fr.of_below (S := nothing) By) id
                have hBy := Bl.trans hB (Bl.low By hB.size)
                rw [HTE.out]
                clear HTX hZ hO hB By
                by_cases hE : gE bs = 0
                · have HE := Lib.hid hE
                  have HV := Lib.hid (HVO.out hE)
                  rw [hE]
                  clear hE HVO HTE
                  go_upto_region 17 with fail
                  refine wp_region_lit ?_
                  refine wpList_plain rfl (fun K hK => ?_)
                  refine oper_load rfl rfl hOy hup rfl (by kernel_rfl) ?_
                  refine hK _ _ ?_
                  clear hK K
                  refine wpList_plain rfl (fun K hK => ?_)
                  refine oper_store (cs0 := #[.bool false, .int .i64 0, .int .u32 0, .int .u16 0, .string ⟨#[]⟩, .string ⟨#[]⟩]) rfl rfl rfl hZy (by kernel_rfl) rfl (by simp [Value.oneCell']) ?_
                  refine hK _ _ ?_
                  clear hK K
                  refine wpList_plain rfl (fun K hK => ?_)
                  go_simp
                  refine hK _ _ ?_
                  clear hK K
                  refine wpList_nil ?_
                  have bZ := blk_row #[.bool (decide (128 ≤ a1)), .int .i64 (a1 % 128), .int .u32 N, .int .u16 P, .string L1, .string L2] hZy
                  have fZ := fr_row (w := wy) w.heap.size #[.bool (decide (128 ≤ a1)), .int .i64 (a1 % 128), .int .u32 N, .int .u16 P, .string L1, .string L2]
                  generalize World.setRow wy w.heap.size #[.bool (decide (128 ≤ a1)), .int .i64 (a1 % 128), .int .u32 N, .int .u16 P, .string L1, .string L2] = wz at *
                  go_wp2
                  (try simp only [Exit.inBlock, Exit.then])
                  refine bodyPost_ret (results_blk rfl _ rfl bZ hup rfl (by kernel_rfl)) rfl ?_
                  rw [HE.out, HV.out]
                  exact ⟨rfl, Bl.trans hBy (Bl.of_fr fZ hBy.size (fun k h => by have h9 : k = w.heap.size := h; omega))⟩
                · have hne2 : (gE bs != 0) = true := by simpa using hE
                  have HV := Lib.hid (gV_bad hE)
                  obtain ⟨E, hEE⟩ : ∃ E, gE bs = E := ⟨_, rfl⟩
                  rw [hEE] at hne2 ⊢
                  have HE := Lib.hid hEE
                  clear hE HVO HTE hEE
                  go_upto_region 16 with fail
                  refine wp_region_lit ?_
                  refine wpList_plain rfl (fun K hK => ?_)
                  go_simp
                  refine hK _ _ ?_
                  clear hK K
                  refine wpList_plain rfl (fun K hK => ?_)
                  go_simp
                  refine hK _ _ ?_
                  clear hK K
                  refine wpList_plain rfl (fun K hK => ?_)
                  refine oper_store (cs0 := #[.bool false, .int .i64 0, .int .u32 0, .int .u16 0, .string ⟨#[]⟩, .string ⟨#[]⟩]) rfl rfl rfl hZy (by kernel_rfl) rfl (by simp [Value.oneCell']) ?_
                  refine hK _ _ ?_
                  clear hK K
                  refine wpList_plain rfl (fun K hK => ?_)
                  go_simp
                  refine hK _ _ ?_
                  clear hK K
                  refine wpList_nil ?_
                  have bZ := blk_row #[.bool false, .int .i64 0, .int .u32 0, .int .u16 0, .string ⟨#[]⟩, .string ⟨#[]⟩] hZy
                  have fZ := fr_row (w := wy) w.heap.size #[.bool false, .int .i64 0, .int .u32 0, .int .u16 0, .string ⟨#[]⟩, .string ⟨#[]⟩]
                  generalize World.setRow wy w.heap.size #[.bool false, .int .i64 0, .int .u32 0, .int .u16 0, .string ⟨#[]⟩, .string ⟨#[]⟩] = wz at *
                  go_wp2
                  (try simp only [Exit.inBlock, Exit.then])
                  refine bodyPost_ret (results_blk rfl _ rfl bZ hup rfl (by kernel_rfl)) rfl ?_
                  rw [HE.out, HV.out]
                  exact ⟨rfl, Bl.trans hBy (Bl.of_fr fZ (hBy).size (fun k h => by have h9 : k = w.heap.size := h; omega))⟩
          · exact ⟨false, false, false, false, false, false, false, false, false, false, false, false, undef, undef, r, false, rfl, rfl, bR10, bO10, B11.drew, Nat.le_refl _, R10, (fun _ => ⟨rfl, rfl⟩), (fun h => by cases h), (fun h => by cases h), (fun h => by cases h), (fun h => by cases h)⟩
    · have hne : (a0 != 3) = true := by simp [h3]
      have hE : gE bs = 60 := by rw [hGE.out, if_pos (.inl h3)]
      have HE := Lib.hid hE
      have HV := Lib.hid (gV_bad (bs := bs) (by rw [hE]; decide))
      clear hE h3
      go_upto_region 8 with fail
      refine wp_region_lit ?_
      refine wpList_plain rfl (fun K hK => ?_)
      go_simp
      refine hK _ _ ?_
      clear hK K
      refine wpList_plain rfl (fun K hK => ?_)
      refine oper_store (cs0 := #[.bool false, .int .i64 0, .int .u32 0, .int .u16 0, .string ⟨#[]⟩, .string ⟨#[]⟩]) rfl rfl rfl bR9 (by kernel_rfl) rfl (by simp [Value.oneCell']) ?_
      refine hK _ _ ?_
      clear hK K
      refine wpList_plain rfl (fun K hK => ?_)
      go_simp
      refine hK _ _ ?_
      clear hK K
      refine wpList_nil ?_
      have bZ := blk_row #[.bool false, .int .i64 0, .int .u32 0, .int .u16 0, .string ⟨#[]⟩, .string ⟨#[]⟩] bR9
      have fZ := fr_row (w := w9) w.heap.size #[.bool false, .int .i64 0, .int .u32 0, .int .u16 0, .string ⟨#[]⟩, .string ⟨#[]⟩]
      generalize World.setRow w9 w.heap.size #[.bool false, .int .i64 0, .int .u32 0, .int .u16 0, .string ⟨#[]⟩, .string ⟨#[]⟩] = wz at *
      go_wp2
      (try simp only [Exit.inBlock, Exit.then])
      refine bodyPost_ret (results_blk rfl _ rfl bZ hup rfl (by kernel_rfl)) rfl ?_
      rw [HE.out, HV.out]
      exact ⟨rfl, Bl.trans B9 (Bl.of_fr fZ (B9).size (fun k h => by have h9 : k = w.heap.size := h; omega))⟩
end Go.Proofs.YtdbndinnakkloaaDoor.Dcp
