/- The walk of flumelaw05.ParamJoins: true for all bytes. No conditions but the row's own. -/
import Derived.Test.YtoknjnaianhjaaaPrmCopy
namespace Go.Proofs.Ytoknjnaianhjaaa.ParamJoins
open Go.RowKit Go.Proofs.Ytoknjnaianhjaaa.Mem Go.Proofs.Ytoknjnaianhjaaa.Octet Go.Proofs.Ytoknjnaianhjaaa.Prm
set_option linter.unusedVariables false
set_option linter.unusedSimpArgs false
attribute [local go_sem] max2_mx min2_mn max_two min_two
section
variable {P : Program} (w : World)
/-- append of nothing. -/
theorem run_append_none (t ty e : TypeId) (i : TypeInfo) (ht : P.underlying t = some (.slice e)) (hi : P.info? e = some i) (base size : Nat) (v : Value) (n : Nat) (xs : List Value) (hown : w.ownsRow base e size v n xs) :
    (Builtin.append_ #[t, t] ty #[v, .slice none 0 0]).run P w = .ok v w := by
  rcases hown.2 with ⟨rfl, h0⟩ | ⟨g, cap, cur, rfl, _, _, hnc, _⟩
  · simp [Builtin.append_, run_underlying ht, sizeOf, typeInfo, hi, Builtin.lenOf, Builtin.firstCells]
  · simp [Builtin.append_, run_underlying ht, sizeOf, typeInfo, hi, Builtin.lenOf, Builtin.firstCells, hnc, storeCells]
theorem wpList_append_run {ops : Array Oper} {rest : List Oper} {o : Oper} {a : Act} {Q : Exit → Act → World → Prop} (hgd : Region.wanted o (yielded ops a.tmps) = true) (s x : Operand) (t : TypeId)
    (ho : o.op = .call { callee := .builtin .append, args := #[s, x], argTypes := #[t, t] }) (v xv : Value) (hs : a.eval s = v) (hx : a.eval x = xv) (ty : TypeId) (hty : o.type = ty) (v' : Value) (w' : World)
    (hrun : (Builtin.append_ #[t, t] ty #[v, xv]).run P w = .ok v' w') (h : wpList P ops Q rest (a.put o.dst v') w') : wpList P ops Q (o :: rest) a w := by
  refine wpList_step fun K hK => ?_
  rw [if_pos hgd]
  subst hty
  unfold Oper.wp execOp
  simp only [ho, resolve, invoke, builtin, Sem.run_bind, Sem.run_pure, Result.andThen_ok, List.map_toArray, List.map_cons, List.map_nil, hs, hx, hrun]
  exact hK _ _ h
end
theorem pcells_app (a b : List (Pm × Value)) : pcells (a ++ b) = pcells a ++ pcells b := by simp [pcells]
/-- A list behind a list, both of the call's own. -/
theorem OwnPm.join {w w' : World} {base : Nat} {v v' : Value} {qs qs2 : List (Pm × Value)}
    (h1 : ∀ q ∈ qs, OwnB w base 5 q.2 q.1.2 ∧ ∀ k, q.2.ownBlock = some k → v.ownBlock ≠ some k)
    (h2 : ∀ q ∈ qs2, OwnB w base 5 q.2 q.1.2 ∧ ∀ k, q.2.ownBlock = some k → v.ownBlock ≠ some k)
    (hown : w'.ownsRow base 43 2 v' (qs.length + qs2.length) (pcells qs ++ pcells qs2)) (hg : w.grownBy w' v.ownBlock) (hat : v'.ownBlock = v.ownBlock ∨ v'.ownBlock = some w.heap.size) :
    OwnPm w' base v' (qs.map Prod.fst ++ qs2.map Prod.fst) := by
  have f : Fr (OfV v) w w' := (Fr.refl _ w).grown hg fun k hk => .inl hk
  refine ⟨qs ++ qs2, by simp, ?_, fun q hq => ?_⟩
  · rw [pcells_app, List.length_append]; exact hown
  · have key : OwnB w base 5 q.2 q.1.2 ∧ ∀ k, q.2.ownBlock = some k → v.ownBlock ≠ some k := by
      rcases List.mem_append.1 hq with hq | hq
      · exact h1 q hq
      · exact h2 q hq
    refine ⟨OwnB.fr key.1 f (fun k hk => key.2 k hk), fun k hk => ?_⟩
    rcases hat with e | e
    · rw [e]; exact key.2 k hk
    · rw [e]; intro e2; injection e2 with e2; have := OwnB.lt key.1 k hk; omega
theorem app_run (ty : TypeId) (base b1 : Nat) (v vq : Value) (ps qs : List Pm) (w : World) (h : OwnPm w b1 v ps) (hbb : base ≤ b1) (hb1 : b1 ≤ w.heap.size)
    (hel : ∃ w0, OwnPm w0 base vq qs ∧ w0.heap.size ≤ b1 ∧ Below w0.heap.size w0 w) (hl : ps.length + qs.length ≤ 1000000) :
    ∃ v5 w5, (Builtin.append_ #[22, 22] ty #[v, vq]).run Try.prog w = .ok v5 w5 ∧ OwnPm w5 base v5 (ps ++ qs) ∧ Below b1 w w5 := by
  obtain ⟨i0, hi0, hz0, hz1, hz2⟩ := info_parts info_p
  obtain ⟨ps2, hp1, hp2, hp3, hp4⟩ := h.split
  obtain ⟨w0, hw0, hw1, hw2⟩ := hel
  obtain ⟨qs2, hq1, hq2, hq3, hq4⟩ := hw0.split
  have hq5 := row_fr (S := nothing) hq3 (Fr.of_below hw2) (fun _ _ h => h)
  have hq6 : ∀ q ∈ qs2, OwnB w base 5 q.2 q.1.2 ∧ ∀ k, q.2.ownBlock = some k → k < b1 := fun q hq => ⟨OwnB.fr (hq4 q hq).1 (S := nothing) (Fr.of_below hw2) (fun _ _ h => h), fun k hk => Nat.lt_of_lt_of_le (OwnB.lt (hq4 q hq).1 k hk) hw1⟩
  have hpge : ∀ k, v.ownBlock = some k → b1 ≤ k := fun k hk => (h.lt k hk).1
  have hP : ∀ q ∈ ps2, OwnB w base 5 q.2 q.1.2 ∧ ∀ k, q.2.ownBlock = some k → v.ownBlock ≠ some k := fun q hq => ⟨OwnB.low (hp4 q hq).1 hbb, (hp4 q hq).2⟩
  have hQ : ∀ q ∈ qs2, OwnB w base 5 q.2 q.1.2 ∧ ∀ k, q.2.ownBlock = some k → v.ownBlock ≠ some k := fun q hq => ⟨(hq6 q hq).1, fun k hk e => by have := hpge k e; have := (hq6 q hq).2 k hk; omega⟩
  have hrow : w.ownsRow base 43 2 v ps2.length (pcells ps2) := by
    rcases hp3.2 with h0 | ⟨g, cap, cur, rfl, hb', rest⟩
    · exact ⟨hp3.1, .inl h0⟩
    · exact ⟨hp3.1, .inr ⟨g, cap, cur, rfl, by omega, rest⟩⟩
  rcases hq5.2 with ⟨rfl, h0⟩ | ⟨g, cap, cur, rfl, hb', hg', hrest⟩
  · have : qs2 = [] := List.eq_nil_of_length_eq_zero h0
    subst this
    refine ⟨v, w, run_append_none w _ _ _ i0 Try.underlying22 hi0 base 2 v ps2.length (pcells ps2) hrow, ?_, Below.refl _ _⟩
    rw [hq1]
    simp only [List.map_nil, List.append_nil]
    exact h.low hbb
  · have hcells := hq5.cells (g := g) rfl
    obtain ⟨v5, w5, hrun, h2, h3, _, h4⟩ := run_append_own_at (P := Try.prog) w base 22 ty 43 i0 _ 2 32 Try.underlying22 hi0 hz0 hz1 hz2 rfl (by decide) v ps2.length (pcells ps2) hrow
      ⟨g, 0, none⟩ qs2.length cap (pcells qs2) (pcells_len qs2) hcells (fun u hu => by
        obtain ⟨q, hq, hu⟩ := List.mem_flatMap.1 hu
        simp at hu
        rcases hu with rfl | rfl
        · rfl
        · have := (hq6 q hq).1
          obtain ⟨A, c, e, _⟩ := OwnB.slice this
          rw [e]; rfl) (by unfold maxLen; omega) (by omega) (by omega)
    refine ⟨v5, w5, hrun, ?_, Bl.of_fr (Fr.grown (S := fun k => b1 ≤ k) (Fr.refl _ _) h3 (fun k hk => .inl (hpge k hk))) hb1 (fun k hk => hk)⟩
    rw [hp1, hq1]
    exact OwnPm.join hP hQ h2 h3 h4
set_option maxHeartbeats 4000000 in
set_option maxRecDepth 100000 in
theorem walk (a : Option Addr) (cap : Nat) (l : List Int) (a2 : Option Addr) (cap2 : Nat) (s : List Int) (w : World) (hr : ReadsI w .u8 a l) (hc : l.length ≤ cap) (hm : cap ≤ maxLen) (hy : l.length * 1 ≤ 140737488351232)
    (hw : ∀ x ∈ l, (Lit.int .u8 x).wf = true) (hnil : a = none → cap = 0)
    (hr2 : ReadsI w .u8 a2 s) (hc2 : s.length ≤ cap2) (hm2 : cap2 ≤ maxLen) (hy2 : s.length * 1 ≤ 140737488351232) (hw2 : ∀ x ∈ s, (Lit.int .u8 x).wf = true) (hnil2 : a2 = none → cap2 = 0) :
    Calls Try.prog 5 #[.slice a l.length cap, .slice a2 s.length cap2] w fun e w' => e = .returned (.bool true) ∧ Below w.heap.size w w' := by
  have X : SlB w 0 w.heap.size (.slice a l.length cap) l := ⟨a, cap, rfl, hc, hm, hnil, rdb_of hr⟩
  have Y : SlB w 0 w.heap.size (.slice a2 s.length cap2) s := ⟨a2, cap2, rfl, hc2, hm2, hnil2, rdb_of hr2⟩
  have IX : IsB l := fun x hx => range_u8 x (hw x hx)
  have IY : IsB s := fun x hx => range_u8 x (hw2 x hx)
  clear hw hw2 hr hr2 hnil hnil2 hc hc2 hm hm2
  by_cases hbig : 50000 < mx l.length s.length
  · go_enter Try.func5, Try.ntmps5
    go_wp2_with fail
    refine (first_calls w).mono ?_
    rintro e w0 ⟨rfl, B0⟩
    go_wp2
    go_ret
    exact ⟨rfl, B0⟩
  · have hl : l.length ≤ 50000 ∧ s.length ≤ 50000 := by unfold mx at hbig; split at hbig <;> omega
    obtain ⟨hl1, hl2⟩ := hl
    obtain ⟨ib, hib, hbz0, hbz1, hbz2⟩ := info_parts info_b
    go_enter Try.func5, Try.ntmps5
    go_wp2_with fail
    refine (first_calls w).mono ?_
    rintro e w0 ⟨rfl, B0⟩
    replace X := SlB.bl X B0 (Nat.le_refl _)
    replace Y := SlB.bl Y B0 (Nat.le_refl _)
    go_wp2_with fail
    refine (get_calls _ _ _ l w0 X IX (by omega)).mono ?_
    rintro e w1 ⟨B1, Bp, cp, rfl, Op⟩
    replace X := SlB.bl X B1 B0.size
    replace Y := SlB.bl Y B1 B0.size
    replace B1 := Bl.trans B0 (Bl.low B1 B0.size)
    have hs1 := B1.size
    go_wp2_with fail
    refine (get_calls _ _ _ s w1 Y IY (by omega)).mono ?_
    rintro e w2 ⟨B2, Bq, cq, rfl, Oq⟩
    have hs2' := B2.size
    replace X := SlB.bl X B2 B1.size
    replace Y := SlB.bl Y B2 B1.size
    replace Op := OwnPm.fr (S := nothing) Op (Fr.of_below B2) (fun _ _ h => h)
    replace B2 := Bl.trans B1 (Bl.low B2 B1.size)
    have hs2 := B2.size
    have hdl := dec_join (b := s) IX
    have hbp := @dec_bad l
    have hbq := @dec_bad s
    have hfp := enc_dec l.length l (Nat.le_refl _) IX
    have hfq := enc_dec s.length s (Nat.le_refl _) IY
    generalize hpp : dec l = dp at *
    generalize hqq : dec s = dq at *
    have own0 : (w2.alloc (.cells #[] 5)).ownsRow w2.heap.size 5 1 (.slice (some ⟨w2.heap.size, 0, none⟩) 0 0) ([] : List Int).length (byts []) :=
      ⟨rfl, .inr ⟨w2.heap.size, 0, #[], rfl, Nat.le_refl _, heap_alloc_new w2 _, Nat.le_refl _, Nat.zero_le _, rfl, rfl⟩⟩
    obtain ⟨A3, c3, e3, h31, h32, h33, rd2⟩ := SlB.fr X (S := nothing) ((Fr.refl _ w2).alloc (.cells #[] 5)) (fun _ _ _ h => h)
    injection e3 with e3 el4 e4
    subst e3; subst e4
    obtain ⟨A4, c4, e5, h41, h42, h43, rd4⟩ := SlB.fr Y (S := nothing) ((Fr.refl _ w2).alloc (.cells #[] 5)) (fun _ _ _ h => h)
    injection e5 with e5 el5 e6
    subst e5; subst e6
    clear h31 h32 h33 el4 h41 h42 h43 el5 hpp hqq X Y
    have hb1 : ([] : List Int).length + l.length ≤ 140737488355328 := by simp; omega
    have hb2 : l.length + s.length ≤ 140737488355328 := by omega
    have hbw : w2.heap.size ≤ (w2.alloc (.cells #[] 5)).heap.size := by simp
    go_wp2_with (first
      | (at_builtin; refine wpList_append_b _ rfl (.tmp 32) (.tmp 33) _ rfl w2.heap.size 5 ib Try.underlying26 hib hbz0 hbz1 hbz2 _ l rfl HO1.out 0 w.heap.size _ _ _ s rfl rfl HR4.out hb2 HWA.out ?_; intro v2 wB hown hg hat; have o2 : OwnB wB w2.heap.size 5 v2 (l ++ s) := hown; have BB := Bl.trans HBA.out (Bl.of_fr (Fr.grown (S := fun k => w2.heap.size ≤ k) (Fr.refl _ _) hg (fun k hk => .inl (OwnB.ge HO1.out k hk))) HWA.out (fun k hk => hk)); obtain ⟨B2s, c2s, rfl, -, -⟩ := OwnB.slice o2; clear hown hg hat)
      | (at_builtin; refine wpList_append_b _ rfl (.tmp 30) (.tmp 31) _ rfl w2.heap.size 5 ib Try.underlying26 hib hbz0 hbz1 hbz2 _ [] rfl own0 0 w.heap.size _ _ _ l rfl rfl rd2 hb1 hbw ?_; intro v1 wA hown hg hat; have HO1 := Lib.hid (show OwnB wA w2.heap.size 5 v1 l from hown); have HBA := Lib.hid (((Below.refl w2.heap.size w2).alloc (Nat.le_refl _) (.cells #[] 5)).grown hg (by simp) (fun k hk => by have hk' : some w2.heap.size = some k := hk; injection hk' with hk'; omega)); have HWA := Lib.hid (Nat.le_trans hbw hg.size); have HR4 := Lib.hid (rd4.fr (Fr.grown (S := fun k => w2.heap.size ≤ k) (Fr.refl _ _) hg (fun k hk => .inl (by have hk' : some w2.heap.size = some k := hk; injection hk' with hk'; omega))) (fun k _ h2 h3 => by omega)); obtain ⟨B1s, c1s, rfl, -, -⟩ := OwnB.slice HO1.out; clear hown hg hat own0 rd2 rd4))
    have IXY : IsB (l ++ s) := fun x hx => by
      rcases List.mem_append.1 hx with h | h
      · exact IX x h
      · exact IY x h
    have C3 := get_calls _ _ _ (l ++ s) wB (SlB.of_own o2) IXY (by rw [List.length_append]; omega)
    rw [List.length_append] at C3
    have HC3 := Lib.hid C3
    clear C3 HO1 HBA HWA HR4 hb1 hb2 hbw
    refine HC3.out.mono ?_
    rintro e w3 ⟨B3, Ba, ca, rfl, Oa⟩
    have B23 := Bl.trans BB (Bl.low B3 BB.size)
    have B03 := Bl.trans B2 (Bl.low B23 B2.size)
    by_cases he : dp.2 = 0
    · have hpl := enc_len_le dp.1
      rw [(hfp he).2] at hpl
      rw [hdl he] at Oa ⊢
      by_cases hf : dq.2 = 0
      · have hql := enc_len_le dq.1
        rw [(hfq hf).2] at hql
        have hcm : comb dp.1 dq = (dp.1 ++ dq.1, 0) := by unfold comb; rw [if_pos hf]
        obtain ⟨r, hr⟩ : ∃ r, dp.1 ++ dq.1 = r := ⟨_, rfl⟩
        rw [hcm, hr] at Oa
        rw [hcm, hr]
        rw [he, hf]
        have hs23 : w2.heap.size ≤ w3.heap.size := B23.size
        have Op3 := OwnPm.fr (S := nothing) Op (Fr.of_below B23) (fun _ _ h => h)
        obtain ⟨A7, c7, e7, P7⟩ := Op3.pms
        injection e7 with e71 _ e73
        subst e71; subst e73
        have hsz3 := B03.size
        have CC := copy_calls _ _ Bp cp dp.1 w3 P7 (Nat.le_refl _) (by omega) (fun p hp => by have := ((hfp he).1 p hp).2.2.2; omega)
        have HCC := Lib.hid CC
        clear CC P7 Op3 hdl HC3 hcm
        go_wp2_with fail
        refine HCC.out.mono ?_
        rintro e w4 ⟨Bc, cc, rfl, Oc, B4⟩
        obtain ⟨v5, w5, hrun, O5, B5⟩ := app_run 22 w1.heap.size w3.heap.size _ (.slice Bq dq.1.length cq) dp.1 dq.1 w4 Oc (Nat.le_trans hs2' hs23) B4.size ⟨w2, Oq, hs23, Bl.trans (Bl.low B23 (Nat.le_refl _)) (Bl.low B4 hs23)⟩ (by omega)
        rw [hr] at O5
        obtain ⟨A8, c8, e8, P8⟩ := Oa.pms
        injection e8 with e81 _ e83
        subst e81; subst e83
        have P9 := (P8.bl B4 (Nat.le_refl _)).bl B5 (Nat.le_refl _)
        obtain ⟨A9, c9, e9, P10⟩ := O5.pms
        subst e9
        have hin : ∀ x ∈ r, InB x := fun x hx => by
          rw [← hr] at hx
          rcases List.mem_append.1 hx with h | h
          · have := (hfp he).1 x h; exact ⟨this.1, this.2.1, this.2.2.1⟩
          · have := (hfq hf).1 x h; exact ⟨this.1, this.2.1, this.2.2.1⟩
        have hrl : r.length ≤ 9223372036854775807 := by rw [← hr, List.length_append]; omega
        have CS := same_calls _ _ _ _ Ba A9 ca c9 r r w5 P9 P10 hin hin hrl
        rw [decide_eq_true rfl] at CS
        have HCS := Lib.hid CS
        have HRUN := Lib.hid hrun
        have B05 := Bl.trans B03 (Bl.trans (Bl.low B4 hsz3) (Bl.low B5 hsz3))
        clear CS hrun hr hin hrl P8 P9 P10 O5 Oa Oc Oq Op hfp hfq hbp hbq hql hpl HCC
        generalize r.length = nr at *
        go_wp2_with (at_builtin; refine wpList_append_run _ rfl (.tmp 60) (.tmp 61) _ rfl _ _ rfl rfl 22 rfl _ w5 HRUN.out ?_)
        refine HCS.out.mono ?_
        rintro e w6 ⟨rfl, B6⟩
        go_wp2
        go_ret
        exact ⟨rfl, Bl.trans B05 (Bl.low B6 B05.size)⟩
      · have hcm : comb dp.1 dq = ([], dq.2) := by unfold comb; rw [if_neg hf]
        rw [hcm] at Oa ⊢
        rw [he, hbq hf]
        have hf2 : (dq.2 == 0) = false := by simpa using hf
        have hf3 : (dq.2 != 0) = true := by simpa using hf
        clear hf hcm Oa Op Oq hdl HC3 hbp hbq hfp hfq
        generalize dq.2 = g at *
        go_wp2
        go_ret
        exact ⟨rfl, B03⟩
    · have he3 : (dp.2 != 0) = true := by simpa using he
      rw [hbp he]
      clear he hdl HC3 hbp hbq hfp hfq Oa Op Oq
      generalize dp.2 = g at *
      go_wp2
      go_ret
      exact ⟨rfl, B03⟩
end Go.Proofs.Ytoknjnaianhjaaa.ParamJoins
