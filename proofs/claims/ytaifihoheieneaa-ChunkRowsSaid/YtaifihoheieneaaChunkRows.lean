/- The walk of flumelaw06.ChunkRows: true for all chunks. No conditions but the row's own. -/
import Derived.Test.YtaifihoheieneaaChkTop
import Derived.Test.YtaifihoheieneaaChkMany
namespace Go.Proofs.Ytaifihoheieneaa.ChunkRows
open Go.RowKit Go.Proofs.Ytaifihoheieneaa.Mem Go.Proofs.Ytaifihoheieneaa.Octet Go.Proofs.Ytaifihoheieneaa.Prm Go.Proofs.Ytaifihoheieneaa.Chk
set_option linter.unusedVariables false
set_option linter.unusedSimpArgs false
theorem tail_of {w : World} {lo hi : Nat} {A : Option Addr} {c : Nat} {bs : List Int} (h : SlB w lo hi (.slice A bs.length c) bs) (l : Nat) (hl : l ≤ bs.length) : SlB w lo hi (.slice (if c = l then A else A.map (·.add l)) (bs.drop l).length (c - l)) (bs.drop l) := by
  obtain ⟨A', c', e, h1, h2, h3, h4⟩ := h
  injection e with e1 e2 e3
  subst e1; subst e3
  refine ⟨if c = l then A else A.map (·.add l), c - l, rfl, by rw [List.length_drop]; omega, by omega, fun h => ?_, h4.drop hl (by omega)⟩
  by_cases hc : c = l
  · omega
  · rw [if_neg hc] at h
    have := h3 (by simpa using h)
    omega
theorem info_k : (Try.prog.info? 22).map (fun i => (i.zero, i.size, i.bytes)) = some (some (.int .u8 0), 1, 1) := by kernel_rfl
/-- The chunks' bytes, one behind the other. -/
def flat (gs : List Ck) : List Int := gs.flatMap cB
theorem flat_snoc (gs : List Ck) (c : Ck) : flat (gs ++ [c]) = flat gs ++ cB c := by simp [flat]
theorem flat_isb {gs : List Ck} (h : ∀ c ∈ gs, CkB c) : IsB (flat gs) := fun x hx => by
  obtain ⟨c, hc, hx⟩ := List.mem_flatMap.1 hx
  exact isb_cB (h c hc) x hx
theorem flat_len {gs : List Ck} (h : ∀ c ∈ gs, cE c = 0) : (flat gs).length ≤ gs.length * 65536 := by
  induction gs with
  | nil => exact Nat.le_refl _
  | cons c gs ih =>
    have h1 := cB_top (h c (by simp))
    have h2 := ih (fun d hd => h d (List.mem_cons_of_mem _ hd))
    show (cB c ++ flat gs).length ≤ (gs.length + 1) * 65536
    rw [List.length_append]; omega
/-- Two rows of different elements lie apart. -/
theorem rows_ne {w : World} {b b' : Nat} {e e' : TypeId} {v v' : Value} {xs ys : List Int} (h : OwnB w b e v xs) (h' : OwnB w b' e' v' ys) (hne : e ≠ e') (k : Nat) (hk : v.ownBlock = some k) : v'.ownBlock ≠ some k := by
  rcases h.2 with ⟨rfl, h0⟩ | ⟨g, cap, cur, rfl, hb, hg, rest⟩
  · cases hk
  · have hk' : some g = some k := hk
    injection hk' with hk'
    subst hk'
    exact OwnB.ne h' hg (fun e => hne e.symm)
theorem one_kind (w : World) (x : Int) : RdB (w.alloc (.cells #[.int .u8 x] 22)) 0 (w.heap.size + 1) (some ⟨w.heap.size, 0, none⟩) [x] := by
  refine .inr ⟨_, rfl, Nat.zero_le _, Nat.lt_succ_self _, fun i hi => ?_⟩
  have hc := cell_of_row (w.alloc (.cells #[.int .u8 x] 22)) w.heap.size i #[.int .u8 x] 22 (0, 0) (heap_alloc_new w _)
  have h0 : i = 0 := by simpa using hi
  subst h0
  exact hc
/-- What the first loop has gathered. -/
structure Got (b : Nat) (w0 : World) (v u : Value) (gs : List Ck) (w : World) : Prop where
  all : OwnB w b 5 v (flat gs)
  ks : OwnB w b 22 u (gs.map (·.k))
  bel : Below b w0 w
  hb : b ≤ w0.heap.size
  ok : ∀ c ∈ gs, CkB c ∧ cE c = 0
set_option maxHeartbeats 8000000 in
set_option maxRecDepth 100000 in
theorem walk (a : Option Addr) (cap len : Nat) (w : World) (hsee : Sees Try.prog w 53 [.slice a len cap]) :
    Calls Try.prog 9 #[.slice a len cap] w fun e w' => e = .returned (.bool true) ∧ Below w.heap.size w w' := by
  obtain ⟨cs, rfl, hCS, hall, hlm⟩ := cks_of_see hsee
  have hml : maxLen = 9223372036854775807 := rfl
  rw [hml] at hlm
  have hup := Try.underlying31
  have HCS := Lib.hid hCS
  have HA := Lib.hid hall
  clear hsee hCS hall hml
  go_enter Try.func9, Try.ntmps9
  go_wp2_with fail
  refine (first_calls _).mono ?_
  rintro e w0 ⟨rfl, B1⟩
  have hs0 := B1.size
  go_wp2_with fail
  go_loopw [3, 4, 18] (fun v u i wr => ∃ (j : Nat) (gs : List Ck), j ≤ cs.length ∧ i = .int .i64 j ∧ gs.length ≤ j ∧ j ≤ 10 ∧ Got w0.heap.size w0 v u gs wr) (fun _ _ i _ => cs.length - (intOf i).toNat)
  case atStart => exact ⟨0, [], Nat.zero_le _, rfl, Nat.le_refl _, Nat.zero_le _, OwnB.nil _ _ _, OwnB.nil _ _ _, Below.refl _ _, Nat.le_refl _, fun c hc => by cases hc⟩
  case round =>
    obtain ⟨j, gs, hj, rfl, hgl, hj10, G⟩ := hrel
    have B2 := Bl.trans B1 (Bl.low G.bel hs0)
    obtain ⟨Av, cv, rfl, -, -⟩ := OwnB.slice G.all
    obtain ⟨Au, cu, rfl, -, -⟩ := OwnB.slice G.ks
    have hbz := Nat.le_trans hs0 G.bel.size
    by_cases hlt : j < cs.length
    · obtain ⟨ad, X, hAd, h1, h2, hX19, hXc, hXV⟩ := (HCS.out.bl B2 (Nat.le_refl _)) j hlt
      obtain rfl := hAd
      obtain ⟨hBc, hplc⟩ := HA.out _ (List.getElem_mem hlt)
      have hsz : X.toArray.size = 19 := hX19
      have hjl : (j : Int) < cs.length := by omega
      have HXV := Lib.hid hXV
      have HBC := Lib.hid hBc
      have HPL := Lib.hid hplc
      clear hXV hBc hplc h1 h2
      generalize cs[j] = c at *
      go_upto_region 7 with fail
      refine wp_region_lit ?_
      refine wpList_plain rfl (fun K hK => ?_)
      go_simp
      refine hK _ _ ?_
      clear hK K
      refine wpList_plain rfl (fun K hK => ?_)
      go_simp
      refine hK _ _ ?_
      clear hK K
      refine wpList_plain rfl (fun K hK => ?_)
      refine oper_load_in (cs := X) rfl rfl hXc hup (by rw [hX19]; kernel_rfl) ?_
      refine hK _ _ ?_
      clear hK K
      refine wpList_plain rfl (fun K hK => ?_)
      go_simp
      refine hK _ _ ?_
      clear hK K
      refine wpList_plain rfl (fun K hK => ?_)
      go_simp
      refine hK _ _ ?_
      clear hK K
      refine wpList_plain rfl (fun K hK => ?_)
      refine Mem.oper_store (cs0 := #[.int .u8 0, .bool false, .bool false, .bool false, .bool false, .int .u32 0, .int .u16 0, .int .u32 0, .int .u32 0, .int .u32 0, .int .u32 0, .int .u32 0, .int .u16 0, .int .u16 0, .slice none 0 0, .slice none 0 0, .slice none 0 0, .slice none 0 0, .slice none 0 0]) (cs := X.toArray) rfl rfl rfl (Blk.new wr #[.int .u8 0, .bool false, .bool false, .bool false, .bool false, .int .u32 0, .int .u16 0, .int .u32 0, .int .u32 0, .int .u32 0, .int .u32 0, .int .u32 0, .int .u16 0, .int .u16 0, .slice none 0 0, .slice none 0 0, .slice none 0 0, .slice none 0 0, .slice none 0 0] 31) (by rw [hsz]; kernel_rfl) (by rw [hsz]; rfl) HXV.out.one ?_
      refine hK _ _ ?_
      clear hK K
      refine wpList_nil ?_
      have bI : Blk ((wr.alloc (.cells #[.int .u8 0, .bool false, .bool false, .bool false, .bool false, .int .u32 0, .int .u16 0, .int .u32 0, .int .u32 0, .int .u32 0, .int .u32 0, .int .u32 0, .int .u16 0, .int .u16 0, .slice none 0 0, .slice none 0 0, .slice none 0 0, .slice none 0 0, .slice none 0 0] 31)).setRow wr.heap.size X.toArray) wr.heap.size 31 X.toArray := blk_row X.toArray (Blk.new wr #[.int .u8 0, .bool false, .bool false, .bool false, .bool false, .int .u32 0, .int .u16 0, .int .u32 0, .int .u32 0, .int .u32 0, .int .u32 0, .int .u32 0, .int .u16 0, .int .u16 0, .slice none 0 0, .slice none 0 0, .slice none 0 0, .slice none 0 0, .slice none 0 0] 31)
      have fQ : Fr nothing wr ((wr.alloc (.cells #[.int .u8 0, .bool false, .bool false, .bool false, .bool false, .int .u32 0, .int .u16 0, .int .u32 0, .int .u32 0, .int .u32 0, .int .u32 0, .int .u32 0, .int .u16 0, .int .u16 0, .slice none 0 0, .slice none 0 0, .slice none 0 0, .slice none 0 0, .slice none 0 0] 31)).setRow wr.heap.size X.toArray) := ((Fr.refl nothing wr).alloc _).trans (fr_row wr.heap.size X.toArray) (fun k hk h => by have h9 : k = wr.heap.size := h; omega)
      have G2 : Got w0.heap.size w0 (.slice Av (flat gs).length cv) (.slice Au (gs.map (·.k)).length cu) gs ((wr.alloc (.cells #[.int .u8 0, .bool false, .bool false, .bool false, .bool false, .int .u32 0, .int .u16 0, .int .u32 0, .int .u32 0, .int .u32 0, .int .u32 0, .int .u32 0, .int .u16 0, .int .u16 0, .slice none 0 0, .slice none 0 0, .slice none 0 0, .slice none 0 0, .slice none 0 0] 31)).setRow wr.heap.size X.toArray) :=
        ⟨OwnB.fr G.all fQ (fun _ _ h => h), OwnB.fr G.ks fQ (fun _ _ h => h), Bl.trans G.bel (Bl.of_fr fQ G.bel.size (fun k h => h.elim)), G.hb, G.ok⟩
      have B3 := Bl.trans B2 (Bl.of_fr fQ hbz (fun k h => h.elim))
      have HXV2 := Lib.hid (HXV.out.fr fQ (fun _ _ _ h => h))
      generalize (wr.alloc (.cells #[.int .u8 0, .bool false, .bool false, .bool false, .bool false, .int .u32 0, .int .u16 0, .int .u32 0, .int .u32 0, .int .u32 0, .int .u32 0, .int .u32 0, .int .u16 0, .int .u16 0, .slice none 0 0, .slice none 0 0, .slice none 0 0, .slice none 0 0, .slice none 0 0] 31)).setRow wr.heap.size X.toArray = ws at *
      generalize wr.heap.size = gI at *
      obtain ⟨Y, hY⟩ : ∃ Y, X.toArray = Y := ⟨_, rfl⟩
      rw [hY] at bI hsz HXV2 ⊢
      have HGZ := Lib.hid (And.intro hgl hj10)
      clear fQ G B2 hbz hXc hX19 hY HXV
      have G := G2
      have B2 := B3
      clear G2 B3
      by_cases h10 : 10 ≤ j
      · have hd : decide ((10 : Int) ≤ (j : Int)) = true := decide_eq_true (by omega)
        clear h10
        obtain ⟨hgl, hj10⟩ := HGZ.out
        clear HGZ bI HXV2 hjl
        -- the second loop; G: what was gathered, at the world ws
        have hsl := SlB.of_own G.all
        obtain ⟨Ak, ck, ek, -, -, -, rk⟩ := SlB.of_own G.ks
        injection ek with ek1 ek2 ek3
        subst ek1; subst ek3
        have hgz : (gs.map (·.k)).length = gs.length := by simp
        have HOK := Lib.hid G.ok
        have hfl := flat_len (fun c hc => (G.ok c hc).2)
        have HRK := Lib.hid rk
        have hgl2 : gs.length ≤ 10 := by omega
        (try rw [hgz])
        have HSL := Lib.hid hsl
        clear hsl ek2 rk hgz G
        go_wp2_with fail
        go_loopw [3, 48] (fun v i wr => ∃ q : Nat, q ≤ gs.length ∧ i = .int .i64 q ∧ SlB wr w0.heap.size ws.heap.size v (flat (gs.drop q)) ∧ Fr nothing ws wr) (fun _ i _ => gs.length - (intOf i).toNat)
        case atStart => exact ⟨0, Nat.zero_le _, rfl, HSL.out, Fr.refl _ _⟩
        case round =>
          obtain ⟨q, hq, rfl, S, F⟩ := hrel
          obtain ⟨A, c, rfl, s1, s2, s3, s4⟩ := id S
          have B3 := Bl.trans B2 (Bl.of_fr F B2.size (fun k h => h.elim))
          by_cases hlt2 : q < gs.length
          · have hin := HOK.out _ (List.getElem_mem hlt2)
            have hfd : flat (gs.drop q) = cB gs[q] ++ flat (gs.drop (q + 1)) := by rw [List.drop_eq_getElem_cons hlt2]; rfl
            have hk := (HRK.out.fr F (fun _ _ _ h => h)).at_ q (by rw [List.length_map]; exact hlt2)
            obtain ⟨ad, rfl, hcell⟩ := hk
            rw [List.getElem_map] at hcell
            have hIB : IsB (flat (gs.drop q)) := flat_isb (fun c hc => (HOK.out c (List.mem_of_mem_drop hc)).1)
            have hlq := flat_len (gs := gs.drop q) (fun c hc => (HOK.out c (List.mem_of_mem_drop hc)).2)
            rw [List.length_drop] at hlq
            rw [hfd] at S s1 hIB hlq ⊢
            have hok := got_ok hin.1 hin.2
            obtain ⟨gN1, gC1⟩ := put_long hin.1 hin.2 (flat (gs.drop (q + 1))) hok
            have gE1 := put_got hin.1 hin.2 (flat (gs.drop (q + 1)))
            rw [hok] at gE1
            have hSZ := ws.heap.size
            have CG := cget_calls _ _ _ (cB gs[q] ++ flat (gs.drop (q + 1))) wr S (by have := F.size; omega) hIB (by omega)
            unfold GetC at CG
            have h4 : 4 ≤ (cB gs[q]).length := cB_len4
            rw [gN1, gC1, gE1, if_neg (by decide)] at CG
            obtain ⟨R, hR⟩ : ∃ R, flat (gs.drop (q + 1)) = R := ⟨_, rfl⟩
            rw [hR] at CG S s1 hlq ⊢
            generalize hgq : gs[q] = g at *
            have hL : (cB g ++ R).length = (cB g).length + R.length := by rw [List.length_append]
            obtain ⟨M, hM⟩ : ∃ M : Nat, (cB g ++ R).length = M := ⟨_, rfl⟩
            obtain ⟨N, hN⟩ : ∃ N : Nat, (cB g).length = N := ⟨_, rfl⟩
            have HMN := Lib.hid (And.intro hM hN)
            rw [hM] at CG s1 hlq hL ⊢
            rw [hN] at CG h4 hL
            have hNM : N ≤ M := by omega
            have HLL := Lib.hid hL
            have HCG := Lib.hid CG
            have HSS := Lib.hid S
            have HRR := Lib.hid hR
            have hqi : (q : Int) < gs.length := by omega
            clear hL CG hfd gN1 gC1 gE1 hok hIB s3 s4 hM hN S hR hSZ
            go_upto_region 17 with fail
            clear hcell
            refine wp_region_lit ?_
            refine wpList_plain rfl (fun K hK => ?_)
            go_simp
            refine hK _ _ ?_
            clear hK K
            -- HCG: the contract, hidden; wr: the world before; names out: bZ block's fact, HZ the chunk's facts (hidden), gZ the block, w9 the world, F9 the frame
            refine wpList_plain rfl (fun K hK => ?_)
            go_simp
            go_at_call 18
            refine HCG.out.mono ?_
            rintro e wQ ⟨BQ, csQ, rfl, hckQ⟩
            simp only []
            refine hK _ _ ?_
            clear hK K HCG
            have szQ := hckQ.size
            have HckQ := Lib.hid hckQ
            clear hckQ
            refine wpList_plain rfl (fun K hK => ?_)
            go_simp
            refine hK _ _ ?_
            clear hK K
            refine wpList_plain rfl (fun K hK => ?_)
            go_simp
            refine hK _ _ ?_
            clear hK K
            refine wpList_plain rfl (fun K hK => ?_)
            go_simp
            refine hK _ _ ?_
            clear hK K
            refine wpList_plain rfl (fun K hK => ?_)
            go_simp
            refine hK _ _ ?_
            clear hK K
            refine wpList_plain rfl (fun K hK => ?_)
            go_simp
            refine hK _ _ ?_
            clear hK K
            refine wpList_plain rfl (fun K hK => ?_)
            refine Mem.oper_store (cs0 := #[.int .u8 0, .bool false, .bool false, .bool false, .bool false, .int .u32 0, .int .u16 0, .int .u32 0, .int .u32 0, .int .u32 0, .int .u32 0, .int .u32 0, .int .u16 0, .int .u16 0, .slice none 0 0, .slice none 0 0, .slice none 0 0, .slice none 0 0, .slice none 0 0]) (cs := csQ) rfl rfl rfl (Blk.new wQ #[.int .u8 0, .bool false, .bool false, .bool false, .bool false, .int .u32 0, .int .u16 0, .int .u32 0, .int .u32 0, .int .u32 0, .int .u32 0, .int .u32 0, .int .u16 0, .int .u16 0, .slice none 0 0, .slice none 0 0, .slice none 0 0, .slice none 0 0, .slice none 0 0] 31) (by rw [szQ]; kernel_rfl) (by rw [szQ]; rfl) HckQ.out.one ?_
            refine hK _ _ ?_
            clear hK K
            refine wpList_plain rfl (fun K hK => ?_)
            go_simp
            refine hK _ _ ?_
            clear hK K
            refine wpList_plain rfl (fun K hK => ?_)
            go_simp
            refine hK _ _ ?_
            clear hK K
            refine wpList_nil ?_
            have bZ : Blk ((wQ.alloc (.cells #[.int .u8 0, .bool false, .bool false, .bool false, .bool false, .int .u32 0, .int .u16 0, .int .u32 0, .int .u32 0, .int .u32 0, .int .u32 0, .int .u32 0, .int .u16 0, .int .u16 0, .slice none 0 0, .slice none 0 0, .slice none 0 0, .slice none 0 0, .slice none 0 0] 31)).setRow wQ.heap.size csQ) wQ.heap.size 31 csQ := blk_row csQ (Blk.new wQ #[.int .u8 0, .bool false, .bool false, .bool false, .bool false, .int .u32 0, .int .u16 0, .int .u32 0, .int .u32 0, .int .u32 0, .int .u32 0, .int .u32 0, .int .u16 0, .int .u16 0, .slice none 0 0, .slice none 0 0, .slice none 0 0, .slice none 0 0, .slice none 0 0] 31)
            have fQ : Fr nothing wQ ((wQ.alloc (.cells #[.int .u8 0, .bool false, .bool false, .bool false, .bool false, .int .u32 0, .int .u16 0, .int .u32 0, .int .u32 0, .int .u32 0, .int .u32 0, .int .u32 0, .int .u16 0, .int .u16 0, .slice none 0 0, .slice none 0 0, .slice none 0 0, .slice none 0 0, .slice none 0 0] 31)).setRow wQ.heap.size csQ) := ((Fr.refl nothing wQ).alloc _).trans (fr_row wQ.heap.size csQ) (fun k hk h => by have h9 : k = wQ.heap.size := h; omega)
            have F9 : Fr nothing wr ((wQ.alloc (.cells #[.int .u8 0, .bool false, .bool false, .bool false, .bool false, .int .u32 0, .int .u16 0, .int .u32 0, .int .u32 0, .int .u32 0, .int .u32 0, .int .u32 0, .int .u16 0, .int .u16 0, .slice none 0 0, .slice none 0 0, .slice none 0 0, .slice none 0 0, .slice none 0 0] 31)).setRow wQ.heap.size csQ) := (Fr.of_below (S := nothing) BQ).trans fQ (fun k _ h => h)
            have hsQ : wr.heap.size ≤ wQ.heap.size := BQ.size
            have htQ : wQ.heap.size < ((wQ.alloc (.cells #[.int .u8 0, .bool false, .bool false, .bool false, .bool false, .int .u32 0, .int .u16 0, .int .u32 0, .int .u32 0, .int .u32 0, .int .u32 0, .int .u32 0, .int .u16 0, .int .u16 0, .slice none 0 0, .slice none 0 0, .slice none 0 0, .slice none 0 0, .slice none 0 0] 31)).setRow wQ.heap.size csQ).heap.size := bZ.lt
            have hck6 := HckQ.out.fr fQ (fun _ _ _ h => h)
            generalize (wQ.alloc (.cells #[.int .u8 0, .bool false, .bool false, .bool false, .bool false, .int .u32 0, .int .u16 0, .int .u32 0, .int .u32 0, .int .u32 0, .int .u32 0, .int .u32 0, .int .u16 0, .int .u16 0, .slice none 0 0, .slice none 0 0, .slice none 0 0, .slice none 0 0, .slice none 0 0] 31)).setRow wQ.heap.size csQ = w9 at *
            generalize wQ.heap.size = gZ at *
            have HZ := Lib.hid hck6
            clear BQ fQ hck6 HckQ
            have B10 := Bl.trans B3 (Bl.of_fr F9 B3.size (fun k h => h.elim))
            have F10 := F.trans F9 (fun _ _ h => h)
            have cz := (bZ.cell 0).trans HZ.out.c0
            rw [rC_k] at cz
            have hs9 := HSS.out.fr F9 (fun _ _ _ h => h)
            have g1 : decide ((N : Int) < 4) = false := decide_eq_false (by omega)
            have g2 : decide ((M : Int) < (N : Int)) = false := decide_eq_false (by omega)
            have g3 : (N : Int) ≤ M := by omega
            have g4 : (N : Int) ≤ c := by omega
            have HF := Lib.hid F10
            have HT := Lib.hid (show SlB w9 w0.heap.size ws.heap.size (.slice (if c = N then A else A.map (·.add N)) (M - N) (c - N)) (flat (gs.drop (q + 1))) from by
              have hmn := HMN.out
              have ht := tail_of hs9 N (by rw [hmn.1]; exact hNM)
              rw [show (cB g ++ R).drop N = R by rw [← hmn.2]; exact List.drop_left] at ht
              rw [HRR.out]
              have hlR : R.length = M - N := by have := HLL.out; omega
              rw [← hlR]
              exact ht)
            clear hs9 F9 F10 F B3 hlq s1 s2 bZ HZ HSS
            obtain ⟨EA, hEA⟩ : ∃ EA, (if c = N then A else A.map (·.add N)) = EA := ⟨_, rfl⟩
            rw [hEA] at HT
            clear g3
            go_wp2
            go_roundw
            case rel => exact ⟨q + 1, by omega, by go_num, HT.out, HF.out⟩
            case measure => simp [intOf]; omega
          · obtain rfl : q = gs.length := by omega
            rw [List.drop_length] at S ⊢
            have hqi : ¬ ((gs.length : Nat) : Int) < gs.length := by omega
            clear S s1 s4
            go_wp2
            go_ret
            exact ⟨rfl, B3⟩
      have hd : decide ((10 : Int) ≤ (j : Int)) = false := decide_eq_false (by omega)
      have hbz := B2.size
      go_upto_region 8 with fail
      refine wp_region_lit ?_
      refine wpList_plain rfl (fun K hK => ?_)
      go_simp
      refine hK _ _ ?_
      clear hK K
      refine wpList_plain rfl (fun K hK => ?_)
      go_simp
      refine hK _ _ ?_
      clear hK K
      refine wpList_plain rfl (fun K hK => ?_)
      go_simp
      refine hK _ _ ?_
      clear hK K
      refine wpList_step fun K hK => ?_
      rw [if_pos (show Region.wanted _ _ = true from rfl)]
      refine Mem.oper_load rfl rfl bI hup rfl (by rw [hsz]; kernel_rfl) ?_
      refine hK _ _ ?_
      clear hK K
      refine wpList_step fun K hK => ?_
      rw [if_pos (show Region.wanted _ _ = true from rfl)]
      go_simp
      go_at_call 11
      refine (size_calls _ _ _ c ws HXV2.out hbz HPL.out).mono ?_
      rintro e w2 ⟨rfl, B3⟩
      simp only []
      refine hK _ _ ?_
      clear hK K
      have bI2 := bI.fr (Fr.of_below (S := nothing) B3) id
      have HXV3 := Lib.hid (HXV2.out.fr (Fr.of_below (S := nothing) B3) (fun _ _ _ h => h))
      have G2 : Got w0.heap.size w0 (.slice Av (flat gs).length cv) (.slice Au (gs.map (·.k)).length cu) gs w2 :=
        ⟨OwnB.fr G.all (Fr.of_below (S := nothing) B3) (fun _ _ h => h), OwnB.fr G.ks (Fr.of_below (S := nothing) B3) (fun _ _ h => h), Bl.trans G.bel (Bl.low B3 G.bel.size), G.hb, G.ok⟩
      have B4 := Bl.trans B2 (Bl.low B3 hbz)
      clear bI HXV2 G B2 B3 hbz
      have G := G2
      have B2 := B4
      clear G2 B4
      refine wpList_step fun K hK => ?_
      rw [if_pos (show Region.wanted _ _ = true from rfl)]
      go_simp
      refine hK _ _ ?_
      clear hK K
      refine wpList_plain rfl (fun K hK => ?_)
      go_simp
      refine hK _ _ ?_
      clear hK K
      refine wpList_nil ?_
      cases hd2 : decide ((10000 : Int) < szC c) with
      | true =>
        obtain ⟨hgl, hj10⟩ := HGZ.out
        clear hd2 HGZ bI2 HXV3 hjl
        -- the second loop; G: what was gathered, at the world w2
        have hsl := SlB.of_own G.all
        obtain ⟨Ak, ck, ek, -, -, -, rk⟩ := SlB.of_own G.ks
        injection ek with ek1 ek2 ek3
        subst ek1; subst ek3
        have hgz : (gs.map (·.k)).length = gs.length := by simp
        have HOK := Lib.hid G.ok
        have hfl := flat_len (fun c hc => (G.ok c hc).2)
        have HRK := Lib.hid rk
        have hgl2 : gs.length ≤ 10 := by omega
        (try rw [hgz])
        have HSL := Lib.hid hsl
        clear hsl ek2 rk hgz G
        go_wp2_with fail
        go_loopw [3, 48] (fun v i wr => ∃ q : Nat, q ≤ gs.length ∧ i = .int .i64 q ∧ SlB wr w0.heap.size w2.heap.size v (flat (gs.drop q)) ∧ Fr nothing w2 wr) (fun _ i _ => gs.length - (intOf i).toNat)
        case atStart => exact ⟨0, Nat.zero_le _, rfl, HSL.out, Fr.refl _ _⟩
        case round =>
          obtain ⟨q, hq, rfl, S, F⟩ := hrel
          obtain ⟨A, c, rfl, s1, s2, s3, s4⟩ := id S
          have B3 := Bl.trans B2 (Bl.of_fr F B2.size (fun k h => h.elim))
          by_cases hlt2 : q < gs.length
          · have hin := HOK.out _ (List.getElem_mem hlt2)
            have hfd : flat (gs.drop q) = cB gs[q] ++ flat (gs.drop (q + 1)) := by rw [List.drop_eq_getElem_cons hlt2]; rfl
            have hk := (HRK.out.fr F (fun _ _ _ h => h)).at_ q (by rw [List.length_map]; exact hlt2)
            obtain ⟨ad, rfl, hcell⟩ := hk
            rw [List.getElem_map] at hcell
            have hIB : IsB (flat (gs.drop q)) := flat_isb (fun c hc => (HOK.out c (List.mem_of_mem_drop hc)).1)
            have hlq := flat_len (gs := gs.drop q) (fun c hc => (HOK.out c (List.mem_of_mem_drop hc)).2)
            rw [List.length_drop] at hlq
            rw [hfd] at S s1 hIB hlq ⊢
            have hok := got_ok hin.1 hin.2
            obtain ⟨gN1, gC1⟩ := put_long hin.1 hin.2 (flat (gs.drop (q + 1))) hok
            have gE1 := put_got hin.1 hin.2 (flat (gs.drop (q + 1)))
            rw [hok] at gE1
            have hSZ := w2.heap.size
            have CG := cget_calls _ _ _ (cB gs[q] ++ flat (gs.drop (q + 1))) wr S (by have := F.size; omega) hIB (by omega)
            unfold GetC at CG
            have h4 : 4 ≤ (cB gs[q]).length := cB_len4
            rw [gN1, gC1, gE1, if_neg (by decide)] at CG
            obtain ⟨R, hR⟩ : ∃ R, flat (gs.drop (q + 1)) = R := ⟨_, rfl⟩
            rw [hR] at CG S s1 hlq ⊢
            generalize hgq : gs[q] = g at *
            have hL : (cB g ++ R).length = (cB g).length + R.length := by rw [List.length_append]
            obtain ⟨M, hM⟩ : ∃ M : Nat, (cB g ++ R).length = M := ⟨_, rfl⟩
            obtain ⟨N, hN⟩ : ∃ N : Nat, (cB g).length = N := ⟨_, rfl⟩
            have HMN := Lib.hid (And.intro hM hN)
            rw [hM] at CG s1 hlq hL ⊢
            rw [hN] at CG h4 hL
            have hNM : N ≤ M := by omega
            have HLL := Lib.hid hL
            have HCG := Lib.hid CG
            have HSS := Lib.hid S
            have HRR := Lib.hid hR
            have hqi : (q : Int) < gs.length := by omega
            clear hL CG hfd gN1 gC1 gE1 hok hIB s3 s4 hM hN S hR hSZ
            go_upto_region 17 with fail
            clear hcell
            refine wp_region_lit ?_
            refine wpList_plain rfl (fun K hK => ?_)
            go_simp
            refine hK _ _ ?_
            clear hK K
            -- HCG: the contract, hidden; wr: the world before; names out: bZ block's fact, HZ the chunk's facts (hidden), gZ the block, w9 the world, F9 the frame
            refine wpList_plain rfl (fun K hK => ?_)
            go_simp
            go_at_call 18
            refine HCG.out.mono ?_
            rintro e wQ ⟨BQ, csQ, rfl, hckQ⟩
            simp only []
            refine hK _ _ ?_
            clear hK K HCG
            have szQ := hckQ.size
            have HckQ := Lib.hid hckQ
            clear hckQ
            refine wpList_plain rfl (fun K hK => ?_)
            go_simp
            refine hK _ _ ?_
            clear hK K
            refine wpList_plain rfl (fun K hK => ?_)
            go_simp
            refine hK _ _ ?_
            clear hK K
            refine wpList_plain rfl (fun K hK => ?_)
            go_simp
            refine hK _ _ ?_
            clear hK K
            refine wpList_plain rfl (fun K hK => ?_)
            go_simp
            refine hK _ _ ?_
            clear hK K
            refine wpList_plain rfl (fun K hK => ?_)
            go_simp
            refine hK _ _ ?_
            clear hK K
            refine wpList_plain rfl (fun K hK => ?_)
            refine Mem.oper_store (cs0 := #[.int .u8 0, .bool false, .bool false, .bool false, .bool false, .int .u32 0, .int .u16 0, .int .u32 0, .int .u32 0, .int .u32 0, .int .u32 0, .int .u32 0, .int .u16 0, .int .u16 0, .slice none 0 0, .slice none 0 0, .slice none 0 0, .slice none 0 0, .slice none 0 0]) (cs := csQ) rfl rfl rfl (Blk.new wQ #[.int .u8 0, .bool false, .bool false, .bool false, .bool false, .int .u32 0, .int .u16 0, .int .u32 0, .int .u32 0, .int .u32 0, .int .u32 0, .int .u32 0, .int .u16 0, .int .u16 0, .slice none 0 0, .slice none 0 0, .slice none 0 0, .slice none 0 0, .slice none 0 0] 31) (by rw [szQ]; kernel_rfl) (by rw [szQ]; rfl) HckQ.out.one ?_
            refine hK _ _ ?_
            clear hK K
            refine wpList_plain rfl (fun K hK => ?_)
            go_simp
            refine hK _ _ ?_
            clear hK K
            refine wpList_plain rfl (fun K hK => ?_)
            go_simp
            refine hK _ _ ?_
            clear hK K
            refine wpList_nil ?_
            have bZ : Blk ((wQ.alloc (.cells #[.int .u8 0, .bool false, .bool false, .bool false, .bool false, .int .u32 0, .int .u16 0, .int .u32 0, .int .u32 0, .int .u32 0, .int .u32 0, .int .u32 0, .int .u16 0, .int .u16 0, .slice none 0 0, .slice none 0 0, .slice none 0 0, .slice none 0 0, .slice none 0 0] 31)).setRow wQ.heap.size csQ) wQ.heap.size 31 csQ := blk_row csQ (Blk.new wQ #[.int .u8 0, .bool false, .bool false, .bool false, .bool false, .int .u32 0, .int .u16 0, .int .u32 0, .int .u32 0, .int .u32 0, .int .u32 0, .int .u32 0, .int .u16 0, .int .u16 0, .slice none 0 0, .slice none 0 0, .slice none 0 0, .slice none 0 0, .slice none 0 0] 31)
            have fQ : Fr nothing wQ ((wQ.alloc (.cells #[.int .u8 0, .bool false, .bool false, .bool false, .bool false, .int .u32 0, .int .u16 0, .int .u32 0, .int .u32 0, .int .u32 0, .int .u32 0, .int .u32 0, .int .u16 0, .int .u16 0, .slice none 0 0, .slice none 0 0, .slice none 0 0, .slice none 0 0, .slice none 0 0] 31)).setRow wQ.heap.size csQ) := ((Fr.refl nothing wQ).alloc _).trans (fr_row wQ.heap.size csQ) (fun k hk h => by have h9 : k = wQ.heap.size := h; omega)
            have F9 : Fr nothing wr ((wQ.alloc (.cells #[.int .u8 0, .bool false, .bool false, .bool false, .bool false, .int .u32 0, .int .u16 0, .int .u32 0, .int .u32 0, .int .u32 0, .int .u32 0, .int .u32 0, .int .u16 0, .int .u16 0, .slice none 0 0, .slice none 0 0, .slice none 0 0, .slice none 0 0, .slice none 0 0] 31)).setRow wQ.heap.size csQ) := (Fr.of_below (S := nothing) BQ).trans fQ (fun k _ h => h)
            have hsQ : wr.heap.size ≤ wQ.heap.size := BQ.size
            have htQ : wQ.heap.size < ((wQ.alloc (.cells #[.int .u8 0, .bool false, .bool false, .bool false, .bool false, .int .u32 0, .int .u16 0, .int .u32 0, .int .u32 0, .int .u32 0, .int .u32 0, .int .u32 0, .int .u16 0, .int .u16 0, .slice none 0 0, .slice none 0 0, .slice none 0 0, .slice none 0 0, .slice none 0 0] 31)).setRow wQ.heap.size csQ).heap.size := bZ.lt
            have hck6 := HckQ.out.fr fQ (fun _ _ _ h => h)
            generalize (wQ.alloc (.cells #[.int .u8 0, .bool false, .bool false, .bool false, .bool false, .int .u32 0, .int .u16 0, .int .u32 0, .int .u32 0, .int .u32 0, .int .u32 0, .int .u32 0, .int .u16 0, .int .u16 0, .slice none 0 0, .slice none 0 0, .slice none 0 0, .slice none 0 0, .slice none 0 0] 31)).setRow wQ.heap.size csQ = w9 at *
            generalize wQ.heap.size = gZ at *
            have HZ := Lib.hid hck6
            clear BQ fQ hck6 HckQ
            have B10 := Bl.trans B3 (Bl.of_fr F9 B3.size (fun k h => h.elim))
            have F10 := F.trans F9 (fun _ _ h => h)
            have cz := (bZ.cell 0).trans HZ.out.c0
            rw [rC_k] at cz
            have hs9 := HSS.out.fr F9 (fun _ _ _ h => h)
            have g1 : decide ((N : Int) < 4) = false := decide_eq_false (by omega)
            have g2 : decide ((M : Int) < (N : Int)) = false := decide_eq_false (by omega)
            have g3 : (N : Int) ≤ M := by omega
            have g4 : (N : Int) ≤ c := by omega
            have HF := Lib.hid F10
            have HT := Lib.hid (show SlB w9 w0.heap.size w2.heap.size (.slice (if c = N then A else A.map (·.add N)) (M - N) (c - N)) (flat (gs.drop (q + 1))) from by
              have hmn := HMN.out
              have ht := tail_of hs9 N (by rw [hmn.1]; exact hNM)
              rw [show (cB g ++ R).drop N = R by rw [← hmn.2]; exact List.drop_left] at ht
              rw [HRR.out]
              have hlR : R.length = M - N := by have := HLL.out; omega
              rw [← hlR]
              exact ht)
            clear hs9 F9 F10 F B3 hlq s1 s2 bZ HZ HSS
            obtain ⟨EA, hEA⟩ : ∃ EA, (if c = N then A else A.map (·.add N)) = EA := ⟨_, rfl⟩
            rw [hEA] at HT
            clear g3
            go_wp2
            go_roundw
            case rel => exact ⟨q + 1, by omega, by go_num, HT.out, HF.out⟩
            case measure => simp [intOf]; omega
          · obtain rfl : q = gs.length := by omega
            rw [List.drop_length] at S ⊢
            have hqi : ¬ ((gs.length : Nat) : Int) < gs.length := by omega
            clear S s1 s4
            go_wp2
            go_ret
            exact ⟨rfl, B3⟩
      | false =>
      have hs := of_decide_eq_false hd2
      have hL := ckl_of (c := c) (by omega)
      have hbz := B2.size
      have CP := cput_calls _ _ Y c w2 HXV3.out hbz HBC.out hL
      unfold PutC at CP
      have hj9 : ¬ 10 ≤ j := by intro h; exact absurd (decide_eq_true (show (10 : Int) ≤ (j : Int) by omega)) (by rw [hd]; decide)
      by_cases hE : cE c = 0
      · rw [cO_ok hE, hE] at CP
        have HCP := Lib.hid CP
        have HE := Lib.hid hE
        have htop := cB_top hE
        clear CP hE hs hd2
        go_upto_region 9 with fail
        clear hd
        refine wp_region_lit ?_
        refine wpList_plain rfl (fun K hK => ?_)
        refine Mem.oper_load rfl rfl bI2 hup rfl (by rw [hsz]; kernel_rfl) ?_
        refine hK _ _ ?_
        clear hK K
        go_wp2_with fail
        refine HCP.out.mono ?_
        rintro e w3 ⟨B3, A3, p3, rfl, o3⟩
        have G3 : Got w0.heap.size w0 (.slice Av (flat gs).length cv) (.slice Au (gs.map (·.k)).length cu) gs w3 :=
          ⟨OwnB.fr G.all (Fr.of_below (S := nothing) B3) (fun _ _ h => h), OwnB.fr G.ks (Fr.of_below (S := nothing) B3) (fun _ _ h => h), Bl.trans G.bel (Bl.low B3 G.bel.size), G.hb, G.ok⟩
        have bI3 := bI2.fr (Fr.of_below (S := nothing) B3) id
        obtain ⟨A3', c3', e3, -, -, -, rd⟩ := SlB.of_own o3
        injection e3 with e31 e32 e33
        subst e31; subst e33
        obtain ⟨ib, hib, hbz0, hbz1, hbz2⟩ := info_parts info_b
        obtain ⟨ik, hik, hkz0, hkz1, hkz2⟩ := info_parts info_k
        have hfl := flat_len (fun c hc => (G.ok c hc).2)
        have hln : (flat gs).length + (cB c).length ≤ 140737488355328 := by have := HGZ.out; omega
        have hb3 := G3.bel.size
        clear G B2 B3 o3 e32 HCP bI2 hbz
        go_upto_region 11 with fail
        refine wp_region_lit ?_
        refine wpList_plain rfl (fun K hK => ?_)
        go_simp
        refine hK _ _ ?_
        clear hK K
        refine wpList_plain rfl (fun K hK => ?_)
        go_simp
        refine hK _ _ ?_
        clear hK K
        refine wpList_append_b _ rfl (.tmp 37) (.tmp 38) _ rfl w0.heap.size 5 ib Try.underlying29 hib hbz0 hbz1 hbz2 (.slice Av (flat gs).length cv) (flat gs) rfl G3.all _ _ _ _ _ (cB c) rfl rfl rd hln hb3 ?_
        intro v4 w4 hown hgr hat
        have o4 : OwnB w4 w0.heap.size 5 v4 (flat gs ++ cB c) := hown
        have F4 : Fr (OfV (.slice Av (flat gs).length cv)) w3 w4 := (Fr.refl _ w3).grown hgr (fun k hk => .inl hk)
        have k4 := OwnB.fr G3.ks F4 (fun k hk h => rows_ne G3.ks G3.all (by decide) k hk h)
        have bI4 := bI3.fr F4 (fun h => OwnB.ne G3.all bI3 (by decide) h)
        have B4 := Bl.trans G3.bel (Bl.of_fr F4 hb3 (fun k hk => OwnB.ge G3.all k hk))
        obtain ⟨A4, n4, c4, rfl, hn4⟩ : ∃ A n c', v4 = .slice A n c' ∧ n = (flat gs ++ cB c).length := (by obtain ⟨A, c', e, -⟩ := OwnB.slice o4; exact ⟨A, _, c', e, rfl⟩)
        have HN4 := Lib.hid hn4
        clear hown hgr hat hn4 F4 rd bI3 hln
        refine wpList_plain rfl (fun K hK => ?_)
        go_simp
        refine hK _ _ ?_
        clear hK K
        refine wpList_nil ?_
        have ck := (bI4.cell 0).trans HXV3.out.c0
        have hs4 := B4.size
        go_upto_region 12 with fail
        refine wp_region_lit ?_
        refine wpList_plain rfl (fun K hK => ?_)
        go_simp
        refine hK _ _ ?_
        clear hK K
        refine wpList_plain rfl (fun K hK => ?_)
        go_simp
        refine hK _ _ ?_
        clear hK K
        refine wpList_plain rfl (fun K hK => ?_)
        go_simp
        refine hK _ _ ?_
        clear hK K
        refine wpList_plain rfl (fun K hK => ?_)
        go_simp
        refine hK _ _ ?_
        clear hK K
        have k5 := OwnB.fr (S := nothing) k4 ((Fr.refl _ w4).alloc (.cells #[.int .u8 c.k] 22)) (fun _ _ h => h)
        have o5 := OwnB.fr (S := nothing) o4 ((Fr.refl _ w4).alloc (.cells #[.int .u8 c.k] 22)) (fun _ _ h => h)
        have rk5 := one_kind w4 c.k
        have B5 := B4.alloc hs4 (.cells #[.int .u8 c.k] 22)
        have hs5 := B5.size
        have hlk : (gs.map (·.k)).length + [c.k].length ≤ 140737488355328 := by have := HGZ.out; simp; omega
        generalize w4.alloc (.cells #[.int .u8 c.k] 22) = w5 at *
        refine wpList_append_b _ rfl (.tmp 40) (.tmp 43) _ rfl w0.heap.size 22 ik Try.underlying54 hik hkz0 hkz1 hkz2 (.slice Au (gs.map fun c : Ck => c.k).length cu) (gs.map fun c : Ck => c.k) (show _ = Value.slice Au (gs.map fun c : Ck => c.k).length cu by rw [List.length_map]; rfl) k5 _ _ _ _ _ [c.k] rfl rfl rk5 hlk hs5 ?_
        intro v6 w6 hown hgr hat
        have k6 : OwnB w6 w0.heap.size 22 v6 (gs.map (·.k) ++ [c.k]) := hown
        have F6 : Fr (OfV (.slice Au (gs.map (·.k)).length cu)) w5 w6 := (Fr.refl _ w5).grown hgr (fun k hk => .inl hk)
        have o6 := OwnB.fr o5 F6 (fun k hk h => rows_ne o5 k5 (by decide) k hk h)
        have B6 := Bl.trans B5 (Bl.of_fr F6 hs5 (fun k hk => OwnB.ge k5 k hk))
        obtain ⟨A6, n6, c6, rfl, hn6⟩ : ∃ A n c', v6 = .slice A n c' ∧ n = (gs.map (·.k) ++ [c.k]).length := (by obtain ⟨A, c', e, -⟩ := OwnB.slice k6; exact ⟨A, _, c', e, rfl⟩)
        have HG6 := Lib.hid (show Got w0.heap.size w0 (.slice A4 n4 c4) (.slice A6 n6 c6) (gs ++ [c]) w6 from ⟨by rw [flat_snoc]; exact o6, by rw [List.map_append]; exact k6, B6, G3.hb, fun d hd => by
          rcases List.mem_append.1 hd with hd | hd
          · exact G3.ok d hd
          · rw [List.mem_singleton] at hd; rw [hd]; exact ⟨HBC.out, HE.out⟩⟩)
        clear hown hgr hat hn6 F6 o6 B6 k6 o5 k5 B5 rk5 hlk o4 k4 B4 bI4 ck G3
        refine wpList_plain rfl (fun K hK => ?_)
        go_simp
        refine hK _ _ ?_
        clear hK K
        refine wpList_nil ?_
        go_wp2
        go_roundw
        case rel => exact ⟨j + 1, gs ++ [c], by omega, by go_num, by have := HGZ.out; simp; omega, by omega, HG6.out⟩
        case measure => simp [intOf]; omega
      · rw [cO_bad hE] at CP
        have HCP := Lib.hid CP
        have hne : (cE c == 0) = false := beq_eq_false_iff_ne.2 hE
        clear CP hE hs hd2
        go_upto_region 9 with fail
        clear hd
        refine wp_region_lit ?_
        refine wpList_plain rfl (fun K hK => ?_)
        refine Mem.oper_load rfl rfl bI2 hup rfl (by rw [hsz]; kernel_rfl) ?_
        refine hK _ _ ?_
        clear hK K
        go_wp2_with fail
        refine HCP.out.mono ?_
        rintro e w3 ⟨B3, A3, p3, rfl, -⟩
        have HG6 := Lib.hid (show Got w0.heap.size w0 (.slice Av (flat gs).length cv) (.slice Au (gs.map (·.k)).length cu) gs w3 from
          ⟨OwnB.fr G.all (Fr.of_below (S := nothing) B3) (fun _ _ h => h), OwnB.fr G.ks (Fr.of_below (S := nothing) B3) (fun _ _ h => h), Bl.trans G.bel (Bl.low B3 G.bel.size), G.hb, G.ok⟩)
        clear HCP bI2 G B2 B3
        go_wp2
        go_roundw
        case rel => exact ⟨j + 1, gs, by omega, by go_num, by have := HGZ.out; omega, by omega, by simpa using HG6.out⟩
        case measure => simp [intOf]; omega
    · obtain ⟨hgl, hj10⟩ := And.intro hgl hj10
      have hjl : ¬ (j : Int) < cs.length := by omega
      clear hbz
      obtain ⟨wz, hwz⟩ : ∃ wz, wz = wr := ⟨_, rfl⟩
      subst hwz
      -- the second loop; G: what was gathered, at the world wz
      have hsl := SlB.of_own G.all
      obtain ⟨Ak, ck, ek, -, -, -, rk⟩ := SlB.of_own G.ks
      injection ek with ek1 ek2 ek3
      subst ek1; subst ek3
      have hgz : (gs.map (·.k)).length = gs.length := by simp
      have HOK := Lib.hid G.ok
      have hfl := flat_len (fun c hc => (G.ok c hc).2)
      have HRK := Lib.hid rk
      have hgl2 : gs.length ≤ 10 := by omega
      (try rw [hgz])
      have HSL := Lib.hid hsl
      clear hsl ek2 rk hgz G
      go_wp2_with fail
      go_loopw [3, 48] (fun v i wr => ∃ q : Nat, q ≤ gs.length ∧ i = .int .i64 q ∧ SlB wr w0.heap.size wz.heap.size v (flat (gs.drop q)) ∧ Fr nothing wz wr) (fun _ i _ => gs.length - (intOf i).toNat)
      case atStart => exact ⟨0, Nat.zero_le _, rfl, HSL.out, Fr.refl _ _⟩
      case round =>
        obtain ⟨q, hq, rfl, S, F⟩ := hrel
        obtain ⟨A, c, rfl, s1, s2, s3, s4⟩ := id S
        have B3 := Bl.trans B2 (Bl.of_fr F B2.size (fun k h => h.elim))
        by_cases hlt2 : q < gs.length
        · have hin := HOK.out _ (List.getElem_mem hlt2)
          have hfd : flat (gs.drop q) = cB gs[q] ++ flat (gs.drop (q + 1)) := by rw [List.drop_eq_getElem_cons hlt2]; rfl
          have hk := (HRK.out.fr F (fun _ _ _ h => h)).at_ q (by rw [List.length_map]; exact hlt2)
          obtain ⟨ad, rfl, hcell⟩ := hk
          rw [List.getElem_map] at hcell
          have hIB : IsB (flat (gs.drop q)) := flat_isb (fun c hc => (HOK.out c (List.mem_of_mem_drop hc)).1)
          have hlq := flat_len (gs := gs.drop q) (fun c hc => (HOK.out c (List.mem_of_mem_drop hc)).2)
          rw [List.length_drop] at hlq
          rw [hfd] at S s1 hIB hlq ⊢
          have hok := got_ok hin.1 hin.2
          obtain ⟨gN1, gC1⟩ := put_long hin.1 hin.2 (flat (gs.drop (q + 1))) hok
          have gE1 := put_got hin.1 hin.2 (flat (gs.drop (q + 1)))
          rw [hok] at gE1
          have hSZ := wz.heap.size
          have CG := cget_calls _ _ _ (cB gs[q] ++ flat (gs.drop (q + 1))) wr S (by have := F.size; omega) hIB (by omega)
          unfold GetC at CG
          have h4 : 4 ≤ (cB gs[q]).length := cB_len4
          rw [gN1, gC1, gE1, if_neg (by decide)] at CG
          obtain ⟨R, hR⟩ : ∃ R, flat (gs.drop (q + 1)) = R := ⟨_, rfl⟩
          rw [hR] at CG S s1 hlq ⊢
          generalize hgq : gs[q] = g at *
          have hL : (cB g ++ R).length = (cB g).length + R.length := by rw [List.length_append]
          obtain ⟨M, hM⟩ : ∃ M : Nat, (cB g ++ R).length = M := ⟨_, rfl⟩
          obtain ⟨N, hN⟩ : ∃ N : Nat, (cB g).length = N := ⟨_, rfl⟩
          have HMN := Lib.hid (And.intro hM hN)
          rw [hM] at CG s1 hlq hL ⊢
          rw [hN] at CG h4 hL
          have hNM : N ≤ M := by omega
          have HLL := Lib.hid hL
          have HCG := Lib.hid CG
          have HSS := Lib.hid S
          have HRR := Lib.hid hR
          have hqi : (q : Int) < gs.length := by omega
          clear hL CG hfd gN1 gC1 gE1 hok hIB s3 s4 hM hN S hR hSZ
          go_upto_region 17 with fail
          clear hcell
          refine wp_region_lit ?_
          refine wpList_plain rfl (fun K hK => ?_)
          go_simp
          refine hK _ _ ?_
          clear hK K
          -- HCG: the contract, hidden; wr: the world before; names out: bZ block's fact, HZ the chunk's facts (hidden), gZ the block, w9 the world, F9 the frame
          refine wpList_plain rfl (fun K hK => ?_)
          go_simp
          go_at_call 18
          refine HCG.out.mono ?_
          rintro e wQ ⟨BQ, csQ, rfl, hckQ⟩
          simp only []
          refine hK _ _ ?_
          clear hK K HCG
          have szQ := hckQ.size
          have HckQ := Lib.hid hckQ
          clear hckQ
          refine wpList_plain rfl (fun K hK => ?_)
          go_simp
          refine hK _ _ ?_
          clear hK K
          refine wpList_plain rfl (fun K hK => ?_)
          go_simp
          refine hK _ _ ?_
          clear hK K
          refine wpList_plain rfl (fun K hK => ?_)
          go_simp
          refine hK _ _ ?_
          clear hK K
          refine wpList_plain rfl (fun K hK => ?_)
          go_simp
          refine hK _ _ ?_
          clear hK K
          refine wpList_plain rfl (fun K hK => ?_)
          go_simp
          refine hK _ _ ?_
          clear hK K
          refine wpList_plain rfl (fun K hK => ?_)
          refine Mem.oper_store (cs0 := #[.int .u8 0, .bool false, .bool false, .bool false, .bool false, .int .u32 0, .int .u16 0, .int .u32 0, .int .u32 0, .int .u32 0, .int .u32 0, .int .u32 0, .int .u16 0, .int .u16 0, .slice none 0 0, .slice none 0 0, .slice none 0 0, .slice none 0 0, .slice none 0 0]) (cs := csQ) rfl rfl rfl (Blk.new wQ #[.int .u8 0, .bool false, .bool false, .bool false, .bool false, .int .u32 0, .int .u16 0, .int .u32 0, .int .u32 0, .int .u32 0, .int .u32 0, .int .u32 0, .int .u16 0, .int .u16 0, .slice none 0 0, .slice none 0 0, .slice none 0 0, .slice none 0 0, .slice none 0 0] 31) (by rw [szQ]; kernel_rfl) (by rw [szQ]; rfl) HckQ.out.one ?_
          refine hK _ _ ?_
          clear hK K
          refine wpList_plain rfl (fun K hK => ?_)
          go_simp
          refine hK _ _ ?_
          clear hK K
          refine wpList_plain rfl (fun K hK => ?_)
          go_simp
          refine hK _ _ ?_
          clear hK K
          refine wpList_nil ?_
          have bZ : Blk ((wQ.alloc (.cells #[.int .u8 0, .bool false, .bool false, .bool false, .bool false, .int .u32 0, .int .u16 0, .int .u32 0, .int .u32 0, .int .u32 0, .int .u32 0, .int .u32 0, .int .u16 0, .int .u16 0, .slice none 0 0, .slice none 0 0, .slice none 0 0, .slice none 0 0, .slice none 0 0] 31)).setRow wQ.heap.size csQ) wQ.heap.size 31 csQ := blk_row csQ (Blk.new wQ #[.int .u8 0, .bool false, .bool false, .bool false, .bool false, .int .u32 0, .int .u16 0, .int .u32 0, .int .u32 0, .int .u32 0, .int .u32 0, .int .u32 0, .int .u16 0, .int .u16 0, .slice none 0 0, .slice none 0 0, .slice none 0 0, .slice none 0 0, .slice none 0 0] 31)
          have fQ : Fr nothing wQ ((wQ.alloc (.cells #[.int .u8 0, .bool false, .bool false, .bool false, .bool false, .int .u32 0, .int .u16 0, .int .u32 0, .int .u32 0, .int .u32 0, .int .u32 0, .int .u32 0, .int .u16 0, .int .u16 0, .slice none 0 0, .slice none 0 0, .slice none 0 0, .slice none 0 0, .slice none 0 0] 31)).setRow wQ.heap.size csQ) := ((Fr.refl nothing wQ).alloc _).trans (fr_row wQ.heap.size csQ) (fun k hk h => by have h9 : k = wQ.heap.size := h; omega)
          have F9 : Fr nothing wr ((wQ.alloc (.cells #[.int .u8 0, .bool false, .bool false, .bool false, .bool false, .int .u32 0, .int .u16 0, .int .u32 0, .int .u32 0, .int .u32 0, .int .u32 0, .int .u32 0, .int .u16 0, .int .u16 0, .slice none 0 0, .slice none 0 0, .slice none 0 0, .slice none 0 0, .slice none 0 0] 31)).setRow wQ.heap.size csQ) := (Fr.of_below (S := nothing) BQ).trans fQ (fun k _ h => h)
          have hsQ : wr.heap.size ≤ wQ.heap.size := BQ.size
          have htQ : wQ.heap.size < ((wQ.alloc (.cells #[.int .u8 0, .bool false, .bool false, .bool false, .bool false, .int .u32 0, .int .u16 0, .int .u32 0, .int .u32 0, .int .u32 0, .int .u32 0, .int .u32 0, .int .u16 0, .int .u16 0, .slice none 0 0, .slice none 0 0, .slice none 0 0, .slice none 0 0, .slice none 0 0] 31)).setRow wQ.heap.size csQ).heap.size := bZ.lt
          have hck6 := HckQ.out.fr fQ (fun _ _ _ h => h)
          generalize (wQ.alloc (.cells #[.int .u8 0, .bool false, .bool false, .bool false, .bool false, .int .u32 0, .int .u16 0, .int .u32 0, .int .u32 0, .int .u32 0, .int .u32 0, .int .u32 0, .int .u16 0, .int .u16 0, .slice none 0 0, .slice none 0 0, .slice none 0 0, .slice none 0 0, .slice none 0 0] 31)).setRow wQ.heap.size csQ = w9 at *
          generalize wQ.heap.size = gZ at *
          have HZ := Lib.hid hck6
          clear BQ fQ hck6 HckQ
          have B10 := Bl.trans B3 (Bl.of_fr F9 B3.size (fun k h => h.elim))
          have F10 := F.trans F9 (fun _ _ h => h)
          have cz := (bZ.cell 0).trans HZ.out.c0
          rw [rC_k] at cz
          have hs9 := HSS.out.fr F9 (fun _ _ _ h => h)
          have g1 : decide ((N : Int) < 4) = false := decide_eq_false (by omega)
          have g2 : decide ((M : Int) < (N : Int)) = false := decide_eq_false (by omega)
          have g3 : (N : Int) ≤ M := by omega
          have g4 : (N : Int) ≤ c := by omega
          have HF := Lib.hid F10
          have HT := Lib.hid (show SlB w9 w0.heap.size wz.heap.size (.slice (if c = N then A else A.map (·.add N)) (M - N) (c - N)) (flat (gs.drop (q + 1))) from by
            have hmn := HMN.out
            have ht := tail_of hs9 N (by rw [hmn.1]; exact hNM)
            rw [show (cB g ++ R).drop N = R by rw [← hmn.2]; exact List.drop_left] at ht
            rw [HRR.out]
            have hlR : R.length = M - N := by have := HLL.out; omega
            rw [← hlR]
            exact ht)
          clear hs9 F9 F10 F B3 hlq s1 s2 bZ HZ HSS
          obtain ⟨EA, hEA⟩ : ∃ EA, (if c = N then A else A.map (·.add N)) = EA := ⟨_, rfl⟩
          rw [hEA] at HT
          clear g3
          go_wp2
          go_roundw
          case rel => exact ⟨q + 1, by omega, by go_num, HT.out, HF.out⟩
          case measure => simp [intOf]; omega
        · obtain rfl : q = gs.length := by omega
          rw [List.drop_length] at S ⊢
          have hqi : ¬ ((gs.length : Nat) : Int) < gs.length := by omega
          clear S s1 s4
          go_wp2
          go_ret
          exact ⟨rfl, B3⟩
end Go.Proofs.Ytaifihoheieneaa.ChunkRows
