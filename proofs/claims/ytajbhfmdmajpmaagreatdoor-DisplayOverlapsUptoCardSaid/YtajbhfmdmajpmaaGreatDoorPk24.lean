/- Laid together: The walks of the reference's Shows and SameShows. -/
import Derived.Test.YtajbhfmdmajpmaaGreatDoorPk23
import Derived.Test.YtajbhfmdmajpmaaGreatDoorPk18
import Derived.Great.BuildSlice

/-! ShwR -/
namespace Go.Proofs.YtajbhfmdmajpmaaGreatDoor
set_option linter.unusedVariables false
set_option linter.unusedSimpArgs false
open Go.RowKit
theorem wp_append1w {P : Program} {o : Oper} {a : Act} {w : World} {K : Act → World → Prop} {Q : Exit → Act → World → Prop} (s x : Operand) (t : TypeId)
    (ho : o.op = .call { callee := .builtin .append, args := #[s, x], argTypes := #[t, t] })
    {base : Nat} {e : TypeId} {z : Value} {size bytes : Nat} (inf : (P.info? e).map (fun i => (i.zero, i.size, i.bytes)) = some (some z, size, bytes)) (ht : P.underlying t = some (.slice e)) (hzs : z.cells.size = size) (hsz : 0 < size)
    {v : Value} {n : Nat} {xs : List Value} (hown : w.ownsRow base e size v n xs) (hs : a.eval s = v) (g : Nat) (news : Array Value) (hx : a.eval x = .slice (some ⟨g, 0, none⟩) 1 1) (hB : Blk w g e news) (hl : news.size = size) (h1 : news.all (·.oneCell') = true)
    (hroom : (n + 1) * bytes ≤ 140737488355328) (hmax : n + 1 ≤ maxLen) (hbase : base ≤ w.heap.size)
    (h : ∀ v' w', w'.ownsRow base e size v' (n + 1) (xs ++ news.toList) → w.grownBy w' v.ownBlock → K (a.put o.dst v') w') : o.wp P a w K Q := by
  obtain ⟨i, hi, hz0, hz1, hz2⟩ := info_parts inf
  obtain ⟨v', w', hrun, h2, h3, _, h5⟩ := run_append_own_at (P := P) w base t o.type e i z size bytes ht hi hz0 hz1 hz2 hzs hsz v n xs hown ⟨g, 0, none⟩ 1 1 news.toList (by simpa using hl)
    (fun j u hu => by rw [Addr.add_mid, Nat.zero_add, hB.cell]; simpa using hu) (fun u hu => (Array.all_eq_true_iff_forall_mem.1 h1) u (by simpa using hu)) hmax hroom hbase
  unfold Oper.wp execOp
  simp only [ho, resolve, invoke, builtin, Sem.run_bind, Sem.run_pure, Result.andThen_ok, List.map_toArray, List.map_cons, List.map_nil, hs, hx, hrun]
  exact h v' w' h2 h3
theorem wp_buildOne {P : Program} {o : Oper} {a : Act} {w : World} {K : Act → World → Prop} {Q : Exit → Act → World → Prop} (t e : TypeId) (x : Operand) (ho : o.op = .buildSlice t 1 #[(0, x)]) (cs : List Value) {z : Value} {bytes : Nat} (hx : a.eval x = .agg cs.toArray)
    (hu : P.underlying t = some (.slice e)) (inf : (P.info? e).map (fun i => (i.zero, i.size, i.bytes)) = some (some z, cs.length, bytes)) (hpos : 0 < cs.length) (hsm : cs.length ≤ 2 ^ 24)
    (h : K (a.put o.dst (.slice (some ⟨w.heap.size, 0, none⟩) 1 1)) (w.alloc (.cells cs.toArray e))) : o.wp P a w K Q := by
  obtain ⟨i, hi, hz0, hz1, hz2⟩ := info_parts inf
  refine wp_buildSlice t e 1 #[(0, x)] ho cs.toArray i z hu hi hz0 (by rw [hz1]; omega) (by rw [hz1]; omega) ?_ h
  have e1 : (#[((0 : Nat), x)].map fun (i, x) => (i, a.eval x)).toList = [(0, .agg cs.toArray)] := by simp [hx]
  rw [e1]
  have key : ∀ (l pre : List Value) (old : List Value) (k : Nat), old.length = l.length → pre.length = k → (l.zipIdx k).foldl (fun (acc : Array Value) p => acc.setIfInBounds (0 + p.2) p.1) (pre ++ old).toArray = (pre ++ l).toArray := by
    intro l
    induction l with
    | nil =>
      intro pre old k h1 h2
      obtain rfl : old = [] := List.eq_nil_of_length_eq_zero h1
      rfl
    | cons v l ih =>
      intro pre old k h1 h2
      cases old with
      | nil => simp at h1
      | cons o old =>
        rw [List.zipIdx_cons, List.foldl_cons]
        have e2 : ((pre ++ o :: old).toArray).setIfInBounds (0 + k) v = (pre ++ [v] ++ old).toArray := by
          apply Array.ext'
          simp [List.set_append, h2]
        rw [e2, ih (pre ++ [v]) old (k + 1) (by simpa using h1) (by simp [h2])]
        simp
  have hc : (Value.agg cs.toArray).cells = cs.toArray := rfl
  simp only [Instr.fill, hc, hz1, List.size_toArray, Nat.zero_mul]
  rw [if_neg (by simp)]
  have hk := key cs [] (((Array.range (1 * cs.length)).map (z.cells[· % z.cells.size]!)).toList) 0 (by simp) rfl
  simp only [List.nil_append, Array.toArray_toList] at hk
  rw [← Array.foldl_toList, Array.toList_zipIdx]
  first | done | simp only [hk]
/-- a screen as the result of a call -/
def PSc (W : World) (l : List Gl) : Value → World → Prop := fun v w => ∃ A c, v = .slice A l.length c ∧ GlsAt w A l.length l ∧ l.length ≤ c ∧ ∀ ad, A = some ad → Typed w 58 ad.block
theorem psc_stable (W : World) (l : List Gl) : QCSt [PSc W l, PSc W l] := by
  have key : ∀ u w w', Ext w w' → PSc W l u w → PSc W l u w' := fun u w w' hx ⟨A, c, h1, h2, h3, h4⟩ => ⟨A, c, h1, h2.ext hx, h3, fun ad e => (h4 ad e).kb (KB.ext hx)⟩
  intro p hp u w w' hx h
  simp only [List.mem_cons, List.not_mem_nil, or_false] at hp
  rcases hp with rfl | rfl <;> exact key u w w' hx h
/-- a show built and appended in a drawn region -/
def ShApJ (W : World) (base : Nat) (ps : List ShP) (p : ShP) (v0 : Value) : List Value → World → Prop
  | [], w => Ext W w
  | [u], w => ∃ g, u = .slice (some ⟨g, 0, none⟩) 1 1 ∧ Blk w g 64 (shVals p).toArray ∧ Ext W w
  | [_, v], w => ShOwn w base v (ps ++ [p]) ∧ (∀ B : World, Ext B W → B.heap.size ≤ base → Ext B w)
  | [_, v, x], w => x = v ∧ ShOwn w base v (ps ++ [p]) ∧ (∀ B : World, Ext B W → B.heap.size ≤ base → Ext B w)
  | _, _ => False
theorem ShApJ.ext3 {w3 W w : World} {base : Nat} {ps : List ShP} {p : ShP} {v0 : Value} (hx : Ext w3 W) (hb : w3.heap.size ≤ base) : ∀ {us : List Value}, ShApJ W base ps p v0 us w → Ext w3 w
  | [], h => hx.trans h
  | [_], ⟨_, _, _, h⟩ => hx.trans h
  | [_, _], ⟨_, h⟩ => h w3 hx hb
  | [_, _, _], ⟨_, _, h⟩ => h w3 hx hb
  | _ :: _ :: _ :: _ :: _, h => absurd h (by simp [ShApJ])
theorem ShApJ.ext {W w : World} {base : Nat} {ps : List ShP} {p : ShP} {v0 : Value} : ∀ {us : List Value}, ShApJ W base ps p v0 us w → us.length ≤ 1 → Ext W w
  | [], h, _ => h
  | [_], ⟨_, _, _, h⟩, _ => h
  | _ :: _ :: _, _, h => by simp at h
def RsRel (w3 : World) (S : Int → List Gl) (t : List Int) (v i : Value) (wr : World) : Prop :=
  ∃ (k : Nat) (ps : List ShP), k ≤ t.length ∧ i = .int .i64 k ∧ Ext w3 wr ∧ ShOwn wr w3.heap.size v ps ∧ ps.map (·.1) = shL S (t.take (k + 1))
set_option maxRecDepth 100000 in
set_option maxHeartbeats 16000000 in
theorem R32Shows_any (d : Doc) (h : DocH) (w : World) (hE : Env w) (hat : DocAt w d h) (hf : DocFit d) (hrn : h.rn ≤ 9223372036854775807) (hn : h.en ≤ 1000000) (hcn : h.cn ≤ 1000000) :
    Calls Tryz.prog 18 #[.agg (d.cells h)] w (ShowsPost d.err d.shw w) := by
  have HCk := Lib.hid (fun w' (hx : Ext w w') => R12Check_any d h w' (hE.ext hx) (hat.ext hx) hf hrn hn (by omega))
  have HSc := Lib.hid (fun f w' (hx : Ext w w') (h0 : d.err = 0) => R32screen_any d h f w' (hE.ext hx) (hat.ext hx) hf hrn hn h0)
  have HTm := Lib.hid (fun w' (hx : Ext w w') => R32times_any d h w' (hat.ext hx).evs hn)
  have V1 : Hid (d.err ≠ 0 → d.shw = []) := fun h => by unfold Doc.shw; rw [if_neg h]
  have V2 : Hid (d.err = 0 → d.shw = shL d.scr d.tms) := fun h => by unfold Doc.shw Doc.shows; rw [if_pos h]
  have VL : Hid (d.tms.length ≤ 2000000) := by show _ ≤ _; have h1 := tms_len (evTs d.evs); have h2 := evTs_len d.evs; have h3 := hat.evs.len; unfold Doc.tms; omega
  clear hE hat hf hrn hcn
  obtain ⟨ra, nr, rc, ea, en, ec, ca, nc, cc⟩ := h
  unfold GlsPost at HSc
  unfold Doc.cells at *
  dsimp only at *
  have HX0 := Lib.hid ((Ext.refl w).alloc (.cells #[.string d.title, .string d.lang, .int .u8 d.rate, .bool d.drop, .int .i64 d.last, .slice ra nr rc, .slice ea en ec, .slice ca nc cc] 27))
  have HB0 := Lib.hid (Blk.new w 27 #[.string d.title, .string d.lang, .int .u8 d.rate, .bool d.drop, .int .i64 d.last, .slice ra nr rc, .slice ea en ec, .slice ca nc cc])
  go_enter Tryz.func18, Tryz.ntmps18
  go_wp2_with (refine wpList_loadB rfl 27 (.tmp 1) rfl w.heap.size 27 _ _ (by exact rfl) (by exact HB0.out) Tryz.underlying27 rfl (by exact size_doc) ?_)
  refine (HCk.out _ HX0.out).mono ?_
  rintro en' w1 ⟨rfl, hx1⟩
  have HX1 := Lib.hid (HX0.out.trans hx1)
  have HB1 := Lib.hid (HB0.out.ext hx1)
  clear hx1 HX0 HB0 HCk
  by_cases he : d.err = 0
  case neg =>
    have hne : (d.err != 0) = true := by simpa using he
    have HN := Lib.hid he
    clear he
    go_wp2_with fail
    go_ret2
    rw [V1.out HN.out]
    exact showsPost_err HX1.out
  have HOk := Lib.hid he
  have HSc2 := Lib.hid (fun f w' (hx : Ext w w') => HSc.out f w' hx he)
  have HV2 := Lib.hid (V2.out he)
  rw [he]
  clear he HSc V1 V2
  go_wp2_with (refine wpList_loadB rfl 27 (.tmp 1) rfl w.heap.size 27 _ _ (by exact rfl) (by exact HB1.out) Tryz.underlying27 rfl (by exact size_doc) ?_)
  refine (HTm.out _ HX1.out).mono ?_
  rintro en3 w3 ⟨TA, cap, rfl, hT, hx3⟩
  have HT3 := Lib.hid hT
  have HX3 := Lib.hid (HX1.out.trans hx3)
  have HB3 := Lib.hid (HB1.out.ext hx3)
  clear hT hx3 HX1 HB1 HTm
  generalize hm : d.tms.length = m at *
  have HMl : Hid (d.tms.length = m) := hm
  have hml : m ≤ 2000000 := VL.out
  have hsw : w.heap.size < w3.heap.size := HB3.out.lt
  clear hm VL
  go_wp2_with fail
  go_loopw [5, 7] (fun v i wr => RsRel w3 d.scr d.tms v i wr) (fun _ i _ => d.tms.length + 1 - (intOf i).toNat)
  case atStart => exact ⟨0, [], Nat.zero_le _, rfl, Ext.refl _, ShOwn.nil _ _, by rw [sh_one]; rfl⟩
  case round =>
    obtain ⟨k, ps, hk, rfl, hx, hown, hmap⟩ := hrel
    have HX := Lib.hid hx
    have HO := Lib.hid hown
    have HM := Lib.hid hmap
    have hpl : ps.length ≤ 2000000 := by
      have h1 : ps.length = (shL d.scr (d.tms.take (k + 1))).length := by rw [← hmap, List.length_map]
      have h2 := shL_len d.scr (d.tms.take (k + 1))
      have h3 := List.length_take_le' (k + 1) d.tms
      have h4 := HMl.out
      omega
    rw [HMl.out] at hk
    clear hx hown hmap
    by_cases hlt : k + 1 < m
    · have hkm : k < m := by omega
      have hkb : k ≤ 2000000 := by omega
      obtain ⟨tb, toff, hTA, hcell⟩ := HT3.out.2 (by omega)
      subst hTA
      have hl1 : k < d.tms.length := by rw [HMl.out]; omega
      have hl2 : k + 1 < d.tms.length := by rw [HMl.out]; omega
      obtain ⟨fa, ha⟩ : ∃ a, d.tms[k]? = some a := ⟨_, List.getElem?_eq_getElem hl1⟩
      obtain ⟨fb, hb⟩ : ∃ b, d.tms[k + 1]? = some b := ⟨_, List.getElem?_eq_getElem hl2⟩
      have HC3 : Hid (w3.cell? ⟨tb, toff + k, none⟩ = some (.int .i64 fa) ∧ w3.cell? ⟨tb, toff + (k + 1), none⟩ = some (.int .i64 fb)) := ⟨by simpa using hcell k fa ha 0 _ rfl, by simpa using hcell (k + 1) fb hb 0 _ rfl⟩
      have hca := HX.out.cell HC3.out.1
      have hcb := HX.out.cell HC3.out.2
      have HStp : Hid (shL d.scr (d.tms.take (k + 1 + 1)) = shStep (shL d.scr (d.tms.take (k + 1))) fa fb (d.scr fa)) := sh_step d.scr d.tms k fa fb ha hb
      have HBr := Lib.hid (HB3.out.ext HX.out)
      have HScr := Lib.hid (fun f w' (hx : Ext wr w') => HSc2.out f w' (HX3.out.trans (HX.out.trans hx)))
      have hST := psc_stable wr (d.scr fa)
      clear hcell ha hb hl1 hl2
      go_upto_region 9 with fail
      refine wp_region_links [some 24, some 25, some 26, some 27, some 28, some 29, some 8] [[], [], [], [1, 2], [3], [0, 4], [5, 5, 0, 1, 2, 3, 4, 5]] [5, 6] [.agg #[.string d.title, .string d.lang, .int .u8 d.rate, .bool d.drop, .int .i64 d.last, .slice ra nr rc, .slice ea en ec, .slice ca nc cc], .slice (some ⟨tb, toff, none⟩) m cap, .int .i64 (k : Int), .pointer (some ⟨tb, toff + k, none⟩), .int .i64 fa, undef, undef] (QC [PSc wr (d.scr fa), PSc wr (d.scr fa)] wr) (by kernel_rfl) (by kernel_rfl) (by kernel_rfl) (by kernel_rfl) (by kernel_rfl) (by kernel_rfl) (by kernel_rfl) (by decide) ?_ ?_ ?_ ?_
      · exact QC.start _ wr
      · intro i o ho hc a w' us K' hJ hF hlim hk
        match i, ho with
        | 0, ho =>
          simp only [List.getElem?_toArray, List.getElem?_cons_zero, List.getElem?_cons_succ, Option.some.injEq] at ho
          subst ho
          have e1 := hF.old 1 (.pointer (some ⟨w.heap.size, 0, none⟩)) rfl rfl
          exact wp_loadBk 27 (.tmp 1) rfl w.heap.size 27 _ _ e1 (HBr.out.ext hJ.ext) Tryz.underlying27 rfl (by exact size_doc) hk
        | 1, ho =>
          simp only [List.getElem?_toArray, List.getElem?_cons_zero, List.getElem?_cons_succ, Option.some.injEq] at ho
          subst ho
          have e6 := hF.old 6 (.slice (some ⟨tb, toff, none⟩) m cap) rfl rfl
          simp only [Act.eval] at e6
          clear hF hlim hJ
          go_simp
          exact hk
        | 2, ho =>
          simp only [List.getElem?_toArray, List.getElem?_cons_zero, List.getElem?_cons_succ, Option.some.injEq] at ho
          subst ho
          have e7 := hF.old 7 (.int .i64 (k : Int)) rfl rfl
          simp only [Act.eval] at e7
          clear hF hlim hJ
          go_simp
          exact hk
        | 3, ho =>
          simp only [List.getElem?_toArray, List.getElem?_cons_zero, List.getElem?_cons_succ, Option.some.injEq] at ho
          subst ho
          have e25 := hF.pure 1 25 (.slice (some ⟨tb, toff, none⟩) m cap) rfl rfl rfl rfl
          have e26 := hF.pure 2 26 (.int .i64 (k : Int)) rfl rfl rfl rfl
          exact wp_ix_i64 rfl e25 e26 (hkm) hk
        | 4, ho =>
          simp only [List.getElem?_toArray, List.getElem?_cons_zero, List.getElem?_cons_succ, Option.some.injEq] at ho
          subst ho
          have e27 := hF.pure 3 27 (.pointer (some ⟨tb, toff + k, none⟩)) rfl rfl rfl rfl
          have hcl := hJ.ext.cell hca
          simp only [Act.eval] at e27
          clear hF hlim hJ
          go_simp
          exact hk
        | 5, ho => simp at hc
        | 6, ho => simp at hc
        | i + 7, ho => simp at ho
      · intro p c' o hp ho a w' us K' hl hJ hF hk
        match p, hp with
        | 0, hp =>
          obtain rfl : 5 = c' := by simpa using hp
          simp only [List.getElem?_toArray, List.getElem?_cons_zero, List.getElem?_cons_succ, Option.some.injEq] at ho
          subst ho
          obtain rfl : us = [] := List.eq_nil_of_length_eq_zero hl
          have e24 := hF.pure 0 24 (.agg #[.string d.title, .string d.lang, .int .u8 d.rate, .bool d.drop, .int .i64 d.last, .slice ra nr rc, .slice ea en ec, .slice ca nc cc]) rfl rfl rfl rfl
          have e28 := hF.pure 4 28 (.int .i64 fa) rfl rfl rfl rfl
          exact wp_call2g rfl e24 e28 Tryz.call36 (HScr.out fa w' hJ.ext) (fun en w5 hp => by obtain ⟨qa, qc, rfl, h1, h2, h3, h4⟩ := hp; exact ⟨_, rfl, hk _ w5 (hJ.push hST h3 (fun p hp => by cases hp; exact ⟨qa, qc, rfl, h1, h2, fun ad e => (h4 ad e).2⟩))⟩)
        | 1, hp =>
          obtain rfl : 6 = c' := by simpa using hp
          simp only [List.getElem?_toArray, List.getElem?_cons_zero, List.getElem?_cons_succ, Option.some.injEq] at ho
          subst ho
          obtain ⟨u0, rfl⟩ := list_1 hl
          have e29 := hF.link 0 5 29 _ rfl rfl rfl rfl
          obtain ⟨qa, qc, hu, hg, hc9, ht9⟩ : PSc wr (d.scr fa) u0 w' := hJ.val 0 u0 _ rfl rfl
          rw [hu] at e29
          have HK := Lib.hid (hk (.slice qa (d.scr fa).length qc) w' (hJ.push hST (Ext.refl _) (fun p hp => by cases hp; exact ⟨qa, qc, rfl, hg, hc9, ht9⟩)))
          simp only [Act.eval] at e29
          clear hk hF hJ hu hg ht9
          go_simp
          exact HK.out
        | p + 2, hp => simp at hp
      intro us w4 hl hJ
      obtain ⟨u0, u1, rfl⟩ := list_2 hl
      first | (rename_i hK; refine hK _ _ ?_; clear hK) | (rename_i hK hK_1; refine hK _ _ ?_; clear hK) | (rename_i hK hK_1 hK_2; refine hK _ _ ?_; clear hK) | (rename_i hK hK_1 hK_2 hK_3; refine hK _ _ ?_; clear hK)
      generalize hL : frameL _ _ _ _ = L
      obtain rfl : L = [(24, .agg #[.string d.title, .string d.lang, .int .u8 d.rate, .bool d.drop, .int .i64 d.last, .slice ra nr rc, .slice ea en ec, .slice ca nc cc]), (25, .slice (some ⟨tb, toff, none⟩) m cap), (26, .int .i64 (k : Int)), (27, .pointer (some ⟨tb, toff + k, none⟩)), (28, .int .i64 fa), (29, u0), (8, u1)] := hL.symm.trans (by kernel_rfl)
      clear hL hl
      simp only [Act.put, List.foldl_cons, List.foldl_nil, List.setIfInBounds_toArray, List.set_cons_zero, List.set_cons_succ]
      obtain ⟨SA, sc, rfl, hg4, hsc, hT4⟩ : PSc wr (d.scr fa) u1 w4 := hJ.val 1 u1 _ rfl rfl
      have hx4 := hJ.ext
      have HX4 := Lib.hid (HX.out.trans hx4)
      have HO4 := Lib.hid (HO.out.ext hx4)
      have HS4 : Hid (ScrIn w4 (⟨fa, fb, d.scr fa⟩, SA, sc)) := ⟨hg4, hsc, hT4⟩
      have hca4 := hx4.cell hca
      have hcb4 := hx4.cell hcb
      have hz4 := HX.out.size
      clear hJ hx4 hg4 hT4 HX HO HBr HScr hca hcb hST
      have hsl : (d.scr fa).length ≤ 480 := scr_480 d fa
      by_cases hps : ps = []
      · subst hps
        obtain ⟨VA, vc, rfl, -⟩ := own_sl (f := shVals) (size := 3) shVals_len rfl HO4.out.1
        have HGo : Hid (goesB (shL d.scr (d.tms.take (k + 1))) fa (d.scr fa) = false) := by show _ = _; rw [← HM.out]; rfl
        go_upto_region 11 with fail
        refine wp_region_ew w4 (Ext.refl _) (by kernel_rfl) (by kernel_rfl) ?_
        repeat (go_big_quiet_step (fail))
        refine wpQuiet_nil ?_
        rintro w5 ⟨⟨_, hx5⟩, rfl⟩
        try dsimp only
        simp only [List.length_nil] at *
        have HX5 := Lib.hid (HX4.out.trans hx5)
        have HO5 := Lib.hid (HO4.out.ext hx5)
        have HS5 := Lib.hid (HS4.out.ext hx5)
        have hca5 := hx5.cell hca4
        have hcb5 := hx5.cell hcb4
        have hz5 := hx5.size
        have hz6 := HX4.out.size
        clear hx5 HX4 HO4 HS4 hca4 hcb4
        by_cases hne : d.scr fa = []
        · have hl0 : (d.scr fa).length = 0 := by rw [hne]; rfl
          have HNe := Lib.hid hne
          clear hne hsl
          have hg0 : decide ((0 : Int) < (d.scr fa).length) = false := by rw [hl0]; rfl
          rw [hl0]
          clear hl0
          go_wp2_with fail
          refine ⟨⟨k + 1, [], by rw [HMl.out]; omega, by go_num, HX5.out, HO5.out, ?_⟩, by have := HMl.out; simp [intOf]; omega⟩
          rw [HStp.out, HM.out]
          unfold shStep
          rw [if_pos HNe.out]
        · have HNe := Lib.hid hne
          have hl0 : 0 < (d.scr fa).length := List.length_pos_iff.2 hne
          have hbl : decide ((0 : Int) < (d.scr fa).length) = true := by simp; omega
          clear hne
          go_upto_region 14 with fail
          refine wp_region_links [some 72, some 73, some 74, some 75, some 76, some 77, some 78, some 79, some 80, some 81, some 82, some 83, some 84, some 85, some 86, some 5] [[], [], [], [1, 2], [3], [], [], [6], [5, 7], [8], [4, 9], [], [10, 11], [12], [0, 13], [14, 14, 0, 1, 2, 3, 4, 5, 6, 7, 8, 9, 10, 11, 12, 13, 14]] [13, 14, 15] [.slice VA 0 vc, .slice (some ⟨tb, toff, none⟩) m cap, .int .i64 (k : Int), .pointer (some ⟨tb, toff + k, none⟩), .int .i64 fa, .slice (some ⟨tb, toff, none⟩) m cap, .int .i64 (k : Int), .int .i64 ((k + 1 : Nat) : Int), .pointer (some ⟨tb, toff + (k + 1), none⟩), .int .i64 fb, .agg #[.int .i64 fa, .int .i64 fb], .slice SA (d.scr fa).length sc, .agg #[.int .i64 fa, .int .i64 fb, .slice SA (d.scr fa).length sc], undef, undef, undef] (ShApJ w5 w3.heap.size [] (⟨fa, fb, d.scr fa⟩, SA, sc) (.slice VA 0 vc)) (by kernel_rfl) (by kernel_rfl) (by kernel_rfl) (by kernel_rfl) (by kernel_rfl) (by kernel_rfl) (by kernel_rfl) (by decide) ?_ ?_ ?_ ?_
          · exact (Ext.refl w5).drew
          · intro i o ho hc a w' us K' hJ hF hlim hk
            match i, ho with
            | 0, ho =>
              simp only [List.getElem?_toArray, List.getElem?_cons_zero, List.getElem?_cons_succ, Option.some.injEq] at ho
              subst ho
              have e5 := hF.olds 2 15 5 (.slice VA 0 vc) rfl rfl (hlim 2 15 rfl rfl) rfl
              simp only [Act.eval] at e5
              clear hF hlim hJ
              go_simp
              exact hk
            | 1, ho =>
              simp only [List.getElem?_toArray, List.getElem?_cons_zero, List.getElem?_cons_succ, Option.some.injEq] at ho
              subst ho
              have e6 := hF.old 6 (.slice (some ⟨tb, toff, none⟩) m cap) rfl rfl
              simp only [Act.eval] at e6
              clear hF hlim hJ
              go_simp
              exact hk
            | 2, ho =>
              simp only [List.getElem?_toArray, List.getElem?_cons_zero, List.getElem?_cons_succ, Option.some.injEq] at ho
              subst ho
              have e7 := hF.old 7 (.int .i64 (k : Int)) rfl rfl
              simp only [Act.eval] at e7
              clear hF hlim hJ
              go_simp
              exact hk
            | 3, ho =>
              simp only [List.getElem?_toArray, List.getElem?_cons_zero, List.getElem?_cons_succ, Option.some.injEq] at ho
              subst ho
              have e73 := hF.pure 1 73 (.slice (some ⟨tb, toff, none⟩) m cap) rfl rfl rfl rfl
              have e74 := hF.pure 2 74 (.int .i64 (k : Int)) rfl rfl rfl rfl
              exact wp_ix_i64 rfl e73 e74 (hkm) hk
            | 4, ho =>
              simp only [List.getElem?_toArray, List.getElem?_cons_zero, List.getElem?_cons_succ, Option.some.injEq] at ho
              subst ho
              have e75 := hF.pure 3 75 (.pointer (some ⟨tb, toff + k, none⟩)) rfl rfl rfl rfl
              have hxJ := hJ.ext3 HX5.out (Nat.le_refl _)
              have hcl := hxJ.cell (HC3.out.1)
              simp only [Act.eval] at e75
              clear hF hlim hJ
              go_simp
              exact hk
            | 5, ho =>
              simp only [List.getElem?_toArray, List.getElem?_cons_zero, List.getElem?_cons_succ, Option.some.injEq] at ho
              subst ho
              have e6 := hF.old 6 (.slice (some ⟨tb, toff, none⟩) m cap) rfl rfl
              simp only [Act.eval] at e6
              clear hF hlim hJ
              go_simp
              exact hk
            | 6, ho =>
              simp only [List.getElem?_toArray, List.getElem?_cons_zero, List.getElem?_cons_succ, Option.some.injEq] at ho
              subst ho
              have e7 := hF.old 7 (.int .i64 (k : Int)) rfl rfl
              simp only [Act.eval] at e7
              clear hF hlim hJ
              go_simp
              exact hk
            | 7, ho =>
              simp only [List.getElem?_toArray, List.getElem?_cons_zero, List.getElem?_cons_succ, Option.some.injEq] at ho
              subst ho
              have e78 := hF.pure 6 78 (.int .i64 (k : Int)) rfl rfl rfl rfl
              simp only [Act.eval] at e78
              have hwk : IntKind.i64.wrap ((k : Int) + 1) = (k : Int) + 1 := wrap_i64 (by omega) (by omega)
              clear hF hlim hJ
              go_simp
              first | exact hk | (rw [hwk]; exact hk)
            | 8, ho =>
              simp only [List.getElem?_toArray, List.getElem?_cons_zero, List.getElem?_cons_succ, Option.some.injEq] at ho
              subst ho
              have e77 := hF.pure 5 77 (.slice (some ⟨tb, toff, none⟩) m cap) rfl rfl rfl rfl
              have e79 := hF.pure 7 79 (.int .i64 ((k + 1 : Nat) : Int)) rfl rfl rfl rfl
              exact wp_ix_i64 rfl e77 e79 (hlt) hk
            | 9, ho =>
              simp only [List.getElem?_toArray, List.getElem?_cons_zero, List.getElem?_cons_succ, Option.some.injEq] at ho
              subst ho
              have e80 := hF.pure 8 80 (.pointer (some ⟨tb, toff + (k + 1), none⟩)) rfl rfl rfl rfl
              have hxJ := hJ.ext3 HX5.out (Nat.le_refl _)
              have hcl := hxJ.cell (HC3.out.2)
              simp only [Act.eval] at e80
              clear hF hlim hJ
              go_simp
              exact hk
            | 10, ho =>
              simp only [List.getElem?_toArray, List.getElem?_cons_zero, List.getElem?_cons_succ, Option.some.injEq] at ho
              subst ho
              have e76 := hF.pure 4 76 (.int .i64 fa) rfl rfl rfl rfl
              have e81 := hF.pure 9 81 (.int .i64 fb) rfl rfl rfl rfl
              exact wp_build2 44 (.tmp 76) (.tmp 81) rfl e76 e81 _ (by kernel_rfl) hk
            | 11, ho =>
              simp only [List.getElem?_toArray, List.getElem?_cons_zero, List.getElem?_cons_succ, Option.some.injEq] at ho
              subst ho
              have e8 := hF.old 8 (.slice SA (d.scr fa).length sc) rfl rfl
              simp only [Act.eval] at e8
              clear hF hlim hJ
              go_simp
              exact hk
            | 12, ho =>
              simp only [List.getElem?_toArray, List.getElem?_cons_zero, List.getElem?_cons_succ, Option.some.injEq] at ho
              subst ho
              have e82 := hF.pure 10 82 (.agg #[.int .i64 fa, .int .i64 fb]) rfl rfl rfl rfl
              have e83 := hF.pure 11 83 (.slice SA (d.scr fa).length sc) rfl rfl rfl rfl
              exact wp_build2 64 (.tmp 82) (.tmp 83) rfl e82 e83 _ (by kernel_rfl) hk
            | 13, ho => simp at hc
            | 14, ho => simp at hc
            | 15, ho => simp at hc
            | i + 16, ho => simp at ho
          · intro p c' o hp ho a w' us K' hl hJ hF hk
            match p, hp with
            | 0, hp =>
              obtain rfl : 13 = c' := by simpa using hp
              simp only [List.getElem?_toArray, List.getElem?_cons_zero, List.getElem?_cons_succ, Option.some.injEq] at ho
              subst ho
              obtain rfl : us = [] := List.eq_nil_of_length_eq_zero hl
              have e84 := hF.pure 12 84 (.agg #[.int .i64 fa, .int .i64 fb, .slice SA (d.scr fa).length sc]) rfl rfl rfl rfl
              have hB := Blk.new w' 64 #[.int .i64 fa, .int .i64 fb, .slice SA (d.scr fa).length sc]
              exact wp_buildOne 36 64 (.tmp 84) rfl [.int .i64 fa, .int .i64 fb, .slice SA (d.scr fa).length sc] e84 Tryz.underlying36 info_show (by simp) (by simp) (hk _ _ ⟨w'.heap.size, rfl, hB, Ext.alloc hJ _⟩)
            | 1, hp =>
              obtain rfl : 14 = c' := by simpa using hp
              simp only [List.getElem?_toArray, List.getElem?_cons_zero, List.getElem?_cons_succ, Option.some.injEq] at ho
              subst ho
              obtain ⟨u0, rfl⟩ := list_1 hl
              have e72 := hF.pure 0 72 (.slice VA 0 vc) rfl rfl rfl rfl
              have e85 := hF.link 0 13 85 _ rfl rfl rfl rfl
              obtain ⟨gn, hu, hB, hxJ⟩ := hJ
              rw [hu] at e85
              refine wp_append1w (.tmp 72) (.tmp 85) 36 rfl info_show Tryz.underlying36 rfl (by decide) (own_ext HO5.out.1 hxJ) e72 gn _ e85 hB (by exact rfl) (by simp [shVals, Value.oneCell']) (by first | omega | (simp; done) | (simp; omega)) (by first | (simp [maxLen]; done) | (simp [maxLen]; omega)) (by have := hxJ.size; omega) ?_
              intro v' w6 hown6 hgr
              exact hk v' w6 ⟨(HO5.out.ext hxJ).snoc (p := (⟨fa, fb, d.scr fa⟩, SA, sc)) (HS5.out.ext hxJ) hown6 hgr, fun B hB hb => (hB.trans hxJ).grown hgr (fun q hq => by have := own_lt HO5.out.1 q hq; omega)⟩
            | 2, hp =>
              obtain rfl : 15 = c' := by simpa using hp
              simp only [List.getElem?_toArray, List.getElem?_cons_zero, List.getElem?_cons_succ, Option.some.injEq] at ho
              subst ho
              obtain ⟨u0, u1, rfl⟩ := list_2 hl
              have e86 := hF.link 1 14 86 _ rfl rfl rfl rfl
              have HK := Lib.hid (hk u1 w' ⟨rfl, hJ⟩)
              simp only [Act.eval] at e86
              clear hk hF hJ
              go_simp
              exact HK.out
            | p + 3, hp => simp at hp
          intro us w6 hl hJ
          obtain ⟨u0, u1, u2, rfl⟩ := list_3 hl
          first | (rename_i hK; refine hK _ _ ?_; clear hK) | (rename_i hK hK_1; refine hK _ _ ?_; clear hK) | (rename_i hK hK_1 hK_2; refine hK _ _ ?_; clear hK) | (rename_i hK hK_1 hK_2 hK_3; refine hK _ _ ?_; clear hK)
          generalize hL : frameL _ _ _ _ = L
          obtain rfl : L = [(72, .slice VA 0 vc), (73, .slice (some ⟨tb, toff, none⟩) m cap), (74, .int .i64 (k : Int)), (75, .pointer (some ⟨tb, toff + k, none⟩)), (76, .int .i64 fa), (77, .slice (some ⟨tb, toff, none⟩) m cap), (78, .int .i64 (k : Int)), (79, .int .i64 ((k + 1 : Nat) : Int)), (80, .pointer (some ⟨tb, toff + (k + 1), none⟩)), (81, .int .i64 fb), (82, .agg #[.int .i64 fa, .int .i64 fb]), (83, .slice SA (d.scr fa).length sc), (84, .agg #[.int .i64 fa, .int .i64 fb, .slice SA (d.scr fa).length sc]), (85, u0), (86, u1), (5, u2)] := hL.symm.trans (by kernel_rfl)
          clear hL hl
          simp only [Act.put, List.foldl_cons, List.foldl_nil, List.setIfInBounds_toArray, List.set_cons_zero, List.set_cons_succ]
          obtain ⟨hu9, hO6, hX6⟩ := hJ
          subst hu9
          have HO6 := Lib.hid hO6
          have HX6 : Hid (Ext w3 w6) := hX6 w3 HX5.out (Nat.le_refl _)
          clear hO6 hX6
          go_wp2_with fail
          refine ⟨⟨k + 1, ([] : List ShP) ++ [(⟨fa, fb, d.scr fa⟩, SA, sc)], by rw [HMl.out]; omega, by go_num, HX6.out, HO6.out, ?_⟩, by have := HMl.out; simp [intOf]; omega⟩
          rw [HStp.out, List.map_append, HM.out]
          unfold shStep
          rw [if_neg HNe.out, if_neg (by rw [HGo.out]; simp)]
          rfl
      · obtain ⟨j, hj⟩ : ∃ j, ps.length = j + 1 := ⟨ps.length - 1, by have := List.length_pos_iff.2 hps; omega⟩
        obtain ⟨p, hp⟩ : ∃ p, ps[j]? = some p := ⟨_, List.getElem?_eq_getElem (by omega)⟩
        obtain ⟨g, vc, rfl, hbg, hTy, hcells⟩ := HO4.out.form hps
        obtain ⟨-, ho1, ho2⟩ := hcells j p hp
        have HG9 := Lib.hid (goes_last hj.symm hp fa (d.scr fa))
        rw [HM.out] at HG9
        have HSm := Lib.hid (fun w' (hx : Ext w4 w') => R32Same_any p.2.1 p.1.scr.length p.2.2 SA (d.scr fa).length sc p.1.scr (d.scr fa) w' ((HO4.out.2 p (List.mem_of_getElem? hp)).gls.ext hx) (HS4.out.gls.ext hx) (by have := shL_480 (scr_480 d) (d.tms.take (k + 1)) p.1 (by rw [← HM.out]; exact List.mem_map.2 ⟨p, List.mem_of_getElem? hp, rfl⟩); omega))
        have HFm := Lib.hid hTy
        have HPm := Lib.hid hp
        have HJ := Lib.hid hj
        have HO4 : Hid (ShOwn w4 w3.heap.size (.slice (some ⟨g, 0, none⟩) (j + 1) vc) ps) := by have h9 := HO4.out; rw [hj] at h9; exact h9
        have hjb : j ≤ 2000000 := by omega
        clear hps hp hTy hcells
        rw [hj]
        clear hj
        go_upto_region 11 with fail
        by_cases ho : p.1.out = fa
        · rw [ho] at ho1
          have hr1 := fun (x : EW w4) => x.ext.cell ho1
          have hr2 := fun (x : EW w4) => x.ext.cell ho2
          have hr3 := fun (x : EW w4) => x.ext.cell hca4
          by_cases hs : p.1.scr = d.scr fa
          · have HGo : Hid (goesB (shL d.scr (d.tms.take (k + 1))) fa (d.scr fa) = true) := by show _ = _; rw [HG9.out, ho, hs]; simp
            have HNe : Hid (¬ d.scr fa = []) := by
              show ¬ _
              rw [← hs]
              exact shL_ne d.scr (d.tms.take (k + 1)) p.1 (by rw [← HM.out]; exact List.mem_map.2 ⟨p, List.mem_of_getElem? HPm.out, rfl⟩)
            have hq := fun w' hx => HSm.out w' hx
            simp only [decide_eq_true hs] at hq
            have HSm := Lib.hid hq
            clear hq hs ho
            refine wp_region_ew w4 (Ext.refl _) (by kernel_rfl) (by kernel_rfl) ?_
            repeat (go_big_quiet_step ((go_at_call 16; with_reducible exact EW.calls _ (HSm.out _ (EW.ext _)))))
            refine wpQuiet_nil ?_
            rintro w5 ⟨⟨_, hx5⟩, rfl⟩
            try dsimp only
            clear hr1 hr2 hr3
            have HX5 := Lib.hid (HX4.out.trans hx5)
            have HO5 := Lib.hid (HO4.out.ext hx5)
            have hcb5 := hx5.cell hcb4
            have hq3 : w5.cell? ⟨g, j * 3 + 1, none⟩ = some (.int .i64 fa) := hx5.cell ho1
            have hq4 : w5.frozen? ⟨g, j * 3 + 1, none⟩ = false := (HFm.out.kb (KB.ext hx5)).frozen _
            clear hx5 HX4 HO4 HS4 ho1 ho2 hca4 hcb4
            go_wp2_with fail
            have hfin := ShOwn.store (w := w5) (base := w3.heap.size) (g := g) (cap := vc) (b := fb) (by rw [HJ.out]; exact HO5.out) HJ.out.symm HPm.out
            rw [HJ.out] at hfin
            refine ⟨⟨k + 1, _, by rw [HMl.out]; omega, by go_num, HX5.out.setCell hbg _, hfin.1, ?_⟩, by have := HMl.out; simp [intOf]; omega⟩
            rw [HStp.out, hfin.2, HM.out]
            unfold shStep
            rw [if_neg HNe.out, if_pos HGo.out]
          · have HGo : Hid (goesB (shL d.scr (d.tms.take (k + 1))) fa (d.scr fa) = false) := by show _ = _; rw [HG9.out, decide_eq_false hs, Bool.and_false]
            have hq := fun w' hx => HSm.out w' hx
            simp only [decide_eq_false hs] at hq
            have HSm := Lib.hid hq
            clear hq hs ho
            refine wp_region_ew w4 (Ext.refl _) (by kernel_rfl) (by kernel_rfl) ?_
            repeat (go_big_quiet_step ((go_at_call 16; with_reducible exact EW.calls _ (HSm.out _ (EW.ext _)))))
            refine wpQuiet_nil ?_
            rintro w5 ⟨⟨_, hx5⟩, rfl⟩
            try dsimp only
            clear hr1 hr2 hr3 ho1 ho2
            have HX5 := Lib.hid (HX4.out.trans hx5)
            have HO5 := Lib.hid (HO4.out.ext hx5)
            have HS5 := Lib.hid (HS4.out.ext hx5)
            have hca5 := hx5.cell hca4
            have hcb5 := hx5.cell hcb4
            have hz5 := hx5.size
            have hz6 := HX4.out.size
            clear hx5 HX4 HO4 HS4 hca4 hcb4
            by_cases hne : d.scr fa = []
            · have hl0 : (d.scr fa).length = 0 := by rw [hne]; rfl
              have HNe := Lib.hid hne
              clear hne hsl
              have hg0 : decide ((0 : Int) < (d.scr fa).length) = false := by rw [hl0]; rfl
              rw [hl0]
              clear hl0
              go_wp2_with fail
              refine ⟨⟨k + 1, ps, by rw [HMl.out]; omega, by go_num, HX5.out, HO5.out, ?_⟩, by have := HMl.out; simp [intOf]; omega⟩
              rw [HStp.out, HM.out]
              unfold shStep
              rw [if_pos HNe.out]
            · have HNe := Lib.hid hne
              have hl0 : 0 < (d.scr fa).length := List.length_pos_iff.2 hne
              have hbl : decide ((0 : Int) < (d.scr fa).length) = true := by simp; omega
              clear hne
              go_upto_region 14 with fail
              refine wp_region_links [some 72, some 73, some 74, some 75, some 76, some 77, some 78, some 79, some 80, some 81, some 82, some 83, some 84, some 85, some 86, some 5] [[], [], [], [1, 2], [3], [], [], [6], [5, 7], [8], [4, 9], [], [10, 11], [12], [0, 13], [14, 14, 0, 1, 2, 3, 4, 5, 6, 7, 8, 9, 10, 11, 12, 13, 14]] [13, 14, 15] [.slice (some ⟨g, 0, none⟩) (j + 1) vc, .slice (some ⟨tb, toff, none⟩) m cap, .int .i64 (k : Int), .pointer (some ⟨tb, toff + k, none⟩), .int .i64 fa, .slice (some ⟨tb, toff, none⟩) m cap, .int .i64 (k : Int), .int .i64 ((k + 1 : Nat) : Int), .pointer (some ⟨tb, toff + (k + 1), none⟩), .int .i64 fb, .agg #[.int .i64 fa, .int .i64 fb], .slice SA (d.scr fa).length sc, .agg #[.int .i64 fa, .int .i64 fb, .slice SA (d.scr fa).length sc], undef, undef, undef] (ShApJ w5 w3.heap.size ps (⟨fa, fb, d.scr fa⟩, SA, sc) (.slice (some ⟨g, 0, none⟩) (j + 1) vc)) (by kernel_rfl) (by kernel_rfl) (by kernel_rfl) (by kernel_rfl) (by kernel_rfl) (by kernel_rfl) (by kernel_rfl) (by decide) ?_ ?_ ?_ ?_
              · exact (Ext.refl w5).drew
              · intro i o ho hc a w' us K' hJ hF hlim hk
                match i, ho with
                | 0, ho =>
                  simp only [List.getElem?_toArray, List.getElem?_cons_zero, List.getElem?_cons_succ, Option.some.injEq] at ho
                  subst ho
                  have e5 := hF.olds 2 15 5 (.slice (some ⟨g, 0, none⟩) (j + 1) vc) rfl rfl (hlim 2 15 rfl rfl) rfl
                  simp only [Act.eval] at e5
                  clear hF hlim hJ
                  go_simp
                  exact hk
                | 1, ho =>
                  simp only [List.getElem?_toArray, List.getElem?_cons_zero, List.getElem?_cons_succ, Option.some.injEq] at ho
                  subst ho
                  have e6 := hF.old 6 (.slice (some ⟨tb, toff, none⟩) m cap) rfl rfl
                  simp only [Act.eval] at e6
                  clear hF hlim hJ
                  go_simp
                  exact hk
                | 2, ho =>
                  simp only [List.getElem?_toArray, List.getElem?_cons_zero, List.getElem?_cons_succ, Option.some.injEq] at ho
                  subst ho
                  have e7 := hF.old 7 (.int .i64 (k : Int)) rfl rfl
                  simp only [Act.eval] at e7
                  clear hF hlim hJ
                  go_simp
                  exact hk
                | 3, ho =>
                  simp only [List.getElem?_toArray, List.getElem?_cons_zero, List.getElem?_cons_succ, Option.some.injEq] at ho
                  subst ho
                  have e73 := hF.pure 1 73 (.slice (some ⟨tb, toff, none⟩) m cap) rfl rfl rfl rfl
                  have e74 := hF.pure 2 74 (.int .i64 (k : Int)) rfl rfl rfl rfl
                  exact wp_ix_i64 rfl e73 e74 (hkm) hk
                | 4, ho =>
                  simp only [List.getElem?_toArray, List.getElem?_cons_zero, List.getElem?_cons_succ, Option.some.injEq] at ho
                  subst ho
                  have e75 := hF.pure 3 75 (.pointer (some ⟨tb, toff + k, none⟩)) rfl rfl rfl rfl
                  have hxJ := hJ.ext3 HX5.out (Nat.le_refl _)
                  have hcl := hxJ.cell (HC3.out.1)
                  simp only [Act.eval] at e75
                  clear hF hlim hJ
                  go_simp
                  exact hk
                | 5, ho =>
                  simp only [List.getElem?_toArray, List.getElem?_cons_zero, List.getElem?_cons_succ, Option.some.injEq] at ho
                  subst ho
                  have e6 := hF.old 6 (.slice (some ⟨tb, toff, none⟩) m cap) rfl rfl
                  simp only [Act.eval] at e6
                  clear hF hlim hJ
                  go_simp
                  exact hk
                | 6, ho =>
                  simp only [List.getElem?_toArray, List.getElem?_cons_zero, List.getElem?_cons_succ, Option.some.injEq] at ho
                  subst ho
                  have e7 := hF.old 7 (.int .i64 (k : Int)) rfl rfl
                  simp only [Act.eval] at e7
                  clear hF hlim hJ
                  go_simp
                  exact hk
                | 7, ho =>
                  simp only [List.getElem?_toArray, List.getElem?_cons_zero, List.getElem?_cons_succ, Option.some.injEq] at ho
                  subst ho
                  have e78 := hF.pure 6 78 (.int .i64 (k : Int)) rfl rfl rfl rfl
                  simp only [Act.eval] at e78
                  have hwk : IntKind.i64.wrap ((k : Int) + 1) = (k : Int) + 1 := wrap_i64 (by omega) (by omega)
                  clear hF hlim hJ
                  go_simp
                  first | exact hk | (rw [hwk]; exact hk)
                | 8, ho =>
                  simp only [List.getElem?_toArray, List.getElem?_cons_zero, List.getElem?_cons_succ, Option.some.injEq] at ho
                  subst ho
                  have e77 := hF.pure 5 77 (.slice (some ⟨tb, toff, none⟩) m cap) rfl rfl rfl rfl
                  have e79 := hF.pure 7 79 (.int .i64 ((k + 1 : Nat) : Int)) rfl rfl rfl rfl
                  exact wp_ix_i64 rfl e77 e79 (hlt) hk
                | 9, ho =>
                  simp only [List.getElem?_toArray, List.getElem?_cons_zero, List.getElem?_cons_succ, Option.some.injEq] at ho
                  subst ho
                  have e80 := hF.pure 8 80 (.pointer (some ⟨tb, toff + (k + 1), none⟩)) rfl rfl rfl rfl
                  have hxJ := hJ.ext3 HX5.out (Nat.le_refl _)
                  have hcl := hxJ.cell (HC3.out.2)
                  simp only [Act.eval] at e80
                  clear hF hlim hJ
                  go_simp
                  exact hk
                | 10, ho =>
                  simp only [List.getElem?_toArray, List.getElem?_cons_zero, List.getElem?_cons_succ, Option.some.injEq] at ho
                  subst ho
                  have e76 := hF.pure 4 76 (.int .i64 fa) rfl rfl rfl rfl
                  have e81 := hF.pure 9 81 (.int .i64 fb) rfl rfl rfl rfl
                  exact wp_build2 44 (.tmp 76) (.tmp 81) rfl e76 e81 _ (by kernel_rfl) hk
                | 11, ho =>
                  simp only [List.getElem?_toArray, List.getElem?_cons_zero, List.getElem?_cons_succ, Option.some.injEq] at ho
                  subst ho
                  have e8 := hF.old 8 (.slice SA (d.scr fa).length sc) rfl rfl
                  simp only [Act.eval] at e8
                  clear hF hlim hJ
                  go_simp
                  exact hk
                | 12, ho =>
                  simp only [List.getElem?_toArray, List.getElem?_cons_zero, List.getElem?_cons_succ, Option.some.injEq] at ho
                  subst ho
                  have e82 := hF.pure 10 82 (.agg #[.int .i64 fa, .int .i64 fb]) rfl rfl rfl rfl
                  have e83 := hF.pure 11 83 (.slice SA (d.scr fa).length sc) rfl rfl rfl rfl
                  exact wp_build2 64 (.tmp 82) (.tmp 83) rfl e82 e83 _ (by kernel_rfl) hk
                | 13, ho => simp at hc
                | 14, ho => simp at hc
                | 15, ho => simp at hc
                | i + 16, ho => simp at ho
              · intro p c' o hp ho a w' us K' hl hJ hF hk
                match p, hp with
                | 0, hp =>
                  obtain rfl : 13 = c' := by simpa using hp
                  simp only [List.getElem?_toArray, List.getElem?_cons_zero, List.getElem?_cons_succ, Option.some.injEq] at ho
                  subst ho
                  obtain rfl : us = [] := List.eq_nil_of_length_eq_zero hl
                  have e84 := hF.pure 12 84 (.agg #[.int .i64 fa, .int .i64 fb, .slice SA (d.scr fa).length sc]) rfl rfl rfl rfl
                  have hB := Blk.new w' 64 #[.int .i64 fa, .int .i64 fb, .slice SA (d.scr fa).length sc]
                  exact wp_buildOne 36 64 (.tmp 84) rfl [.int .i64 fa, .int .i64 fb, .slice SA (d.scr fa).length sc] e84 Tryz.underlying36 info_show (by simp) (by simp) (hk _ _ ⟨w'.heap.size, rfl, hB, Ext.alloc hJ _⟩)
                | 1, hp =>
                  obtain rfl : 14 = c' := by simpa using hp
                  simp only [List.getElem?_toArray, List.getElem?_cons_zero, List.getElem?_cons_succ, Option.some.injEq] at ho
                  subst ho
                  obtain ⟨u0, rfl⟩ := list_1 hl
                  have e72 := hF.pure 0 72 (.slice (some ⟨g, 0, none⟩) (j + 1) vc) rfl rfl rfl rfl
                  have e85 := hF.link 0 13 85 _ rfl rfl rfl rfl
                  obtain ⟨gn, hu, hB, hxJ⟩ := hJ
                  rw [hu] at e85
                  refine wp_append1w (.tmp 72) (.tmp 85) 36 rfl info_show Tryz.underlying36 rfl (by decide) (own_ext HO5.out.1 hxJ) e72 gn _ e85 hB (by exact rfl) (by simp [shVals, Value.oneCell']) (by omega) (by simp [maxLen]; omega) (by have := hxJ.size; omega) ?_
                  intro v' w6 hown6 hgr
                  exact hk v' w6 ⟨(HO5.out.ext hxJ).snoc (p := (⟨fa, fb, d.scr fa⟩, SA, sc)) (HS5.out.ext hxJ) hown6 hgr, fun B hB hb => (hB.trans hxJ).grown hgr (fun q hq => by have := own_lt HO5.out.1 q hq; omega)⟩
                | 2, hp =>
                  obtain rfl : 15 = c' := by simpa using hp
                  simp only [List.getElem?_toArray, List.getElem?_cons_zero, List.getElem?_cons_succ, Option.some.injEq] at ho
                  subst ho
                  obtain ⟨u0, u1, rfl⟩ := list_2 hl
                  have e86 := hF.link 1 14 86 _ rfl rfl rfl rfl
                  have HK := Lib.hid (hk u1 w' ⟨rfl, hJ⟩)
                  simp only [Act.eval] at e86
                  clear hk hF hJ
                  go_simp
                  exact HK.out
                | p + 3, hp => simp at hp
              intro us w6 hl hJ
              obtain ⟨u0, u1, u2, rfl⟩ := list_3 hl
              first | (rename_i hK; refine hK _ _ ?_; clear hK) | (rename_i hK hK_1; refine hK _ _ ?_; clear hK) | (rename_i hK hK_1 hK_2; refine hK _ _ ?_; clear hK) | (rename_i hK hK_1 hK_2 hK_3; refine hK _ _ ?_; clear hK)
              generalize hL : frameL _ _ _ _ = L
              obtain rfl : L = [(72, .slice (some ⟨g, 0, none⟩) (j + 1) vc), (73, .slice (some ⟨tb, toff, none⟩) m cap), (74, .int .i64 (k : Int)), (75, .pointer (some ⟨tb, toff + k, none⟩)), (76, .int .i64 fa), (77, .slice (some ⟨tb, toff, none⟩) m cap), (78, .int .i64 (k : Int)), (79, .int .i64 ((k + 1 : Nat) : Int)), (80, .pointer (some ⟨tb, toff + (k + 1), none⟩)), (81, .int .i64 fb), (82, .agg #[.int .i64 fa, .int .i64 fb]), (83, .slice SA (d.scr fa).length sc), (84, .agg #[.int .i64 fa, .int .i64 fb, .slice SA (d.scr fa).length sc]), (85, u0), (86, u1), (5, u2)] := hL.symm.trans (by kernel_rfl)
              clear hL hl
              simp only [Act.put, List.foldl_cons, List.foldl_nil, List.setIfInBounds_toArray, List.set_cons_zero, List.set_cons_succ]
              obtain ⟨hu9, hO6, hX6⟩ := hJ
              subst hu9
              have HO6 := Lib.hid hO6
              have HX6 : Hid (Ext w3 w6) := hX6 w3 HX5.out (Nat.le_refl _)
              clear hO6 hX6
              go_wp2_with fail
              refine ⟨⟨k + 1, ps ++ [(⟨fa, fb, d.scr fa⟩, SA, sc)], by rw [HMl.out]; omega, by go_num, HX6.out, HO6.out, ?_⟩, by have := HMl.out; simp [intOf]; omega⟩
              rw [HStp.out, List.map_append, HM.out]
              unfold shStep
              rw [if_neg HNe.out, if_neg (by rw [HGo.out]; simp)]
              rfl
        · have HGo : Hid (goesB (shL d.scr (d.tms.take (k + 1))) fa (d.scr fa) = false) := by show _ = _; rw [HG9.out, decide_eq_false ho, Bool.false_and]
          have hbo : (p.1.out == fa) = false := by simpa using ho
          have hr1 := fun (x : EW w4) => x.ext.cell ho1
          have hr3 := fun (x : EW w4) => x.ext.cell hca4
          clear ho
          refine wp_region_ew w4 (Ext.refl _) (by kernel_rfl) (by kernel_rfl) ?_
          repeat (go_big_quiet_step ((go_at_call 16; with_reducible exact EW.calls _ (HSm.out _ (EW.ext _)))))
          refine wpQuiet_nil ?_
          rintro w5 ⟨⟨_, hx5⟩, rfl⟩
          try dsimp only
          clear hr1 hr3 ho1 ho2
          have HX5 := Lib.hid (HX4.out.trans hx5)
          have HO5 := Lib.hid (HO4.out.ext hx5)
          have HS5 := Lib.hid (HS4.out.ext hx5)
          have hca5 := hx5.cell hca4
          have hcb5 := hx5.cell hcb4
          have hz5 := hx5.size
          have hz6 := HX4.out.size
          clear hx5 HX4 HO4 HS4 hca4 hcb4
          by_cases hne : d.scr fa = []
          · have hl0 : (d.scr fa).length = 0 := by rw [hne]; rfl
            have HNe := Lib.hid hne
            clear hne hsl
            have hg0 : decide ((0 : Int) < (d.scr fa).length) = false := by rw [hl0]; rfl
            rw [hl0]
            clear hl0
            go_wp2_with fail
            refine ⟨⟨k + 1, ps, by rw [HMl.out]; omega, by go_num, HX5.out, HO5.out, ?_⟩, by have := HMl.out; simp [intOf]; omega⟩
            rw [HStp.out, HM.out]
            unfold shStep
            rw [if_pos HNe.out]
          · have HNe := Lib.hid hne
            have hl0 : 0 < (d.scr fa).length := List.length_pos_iff.2 hne
            have hbl : decide ((0 : Int) < (d.scr fa).length) = true := by simp; omega
            clear hne
            go_upto_region 14 with fail
            refine wp_region_links [some 72, some 73, some 74, some 75, some 76, some 77, some 78, some 79, some 80, some 81, some 82, some 83, some 84, some 85, some 86, some 5] [[], [], [], [1, 2], [3], [], [], [6], [5, 7], [8], [4, 9], [], [10, 11], [12], [0, 13], [14, 14, 0, 1, 2, 3, 4, 5, 6, 7, 8, 9, 10, 11, 12, 13, 14]] [13, 14, 15] [.slice (some ⟨g, 0, none⟩) (j + 1) vc, .slice (some ⟨tb, toff, none⟩) m cap, .int .i64 (k : Int), .pointer (some ⟨tb, toff + k, none⟩), .int .i64 fa, .slice (some ⟨tb, toff, none⟩) m cap, .int .i64 (k : Int), .int .i64 ((k + 1 : Nat) : Int), .pointer (some ⟨tb, toff + (k + 1), none⟩), .int .i64 fb, .agg #[.int .i64 fa, .int .i64 fb], .slice SA (d.scr fa).length sc, .agg #[.int .i64 fa, .int .i64 fb, .slice SA (d.scr fa).length sc], undef, undef, undef] (ShApJ w5 w3.heap.size ps (⟨fa, fb, d.scr fa⟩, SA, sc) (.slice (some ⟨g, 0, none⟩) (j + 1) vc)) (by kernel_rfl) (by kernel_rfl) (by kernel_rfl) (by kernel_rfl) (by kernel_rfl) (by kernel_rfl) (by kernel_rfl) (by decide) ?_ ?_ ?_ ?_
            · exact (Ext.refl w5).drew
            · intro i o ho hc a w' us K' hJ hF hlim hk
              match i, ho with
              | 0, ho =>
                simp only [List.getElem?_toArray, List.getElem?_cons_zero, List.getElem?_cons_succ, Option.some.injEq] at ho
                subst ho
                have e5 := hF.olds 2 15 5 (.slice (some ⟨g, 0, none⟩) (j + 1) vc) rfl rfl (hlim 2 15 rfl rfl) rfl
                simp only [Act.eval] at e5
                clear hF hlim hJ
                go_simp
                exact hk
              | 1, ho =>
                simp only [List.getElem?_toArray, List.getElem?_cons_zero, List.getElem?_cons_succ, Option.some.injEq] at ho
                subst ho
                have e6 := hF.old 6 (.slice (some ⟨tb, toff, none⟩) m cap) rfl rfl
                simp only [Act.eval] at e6
                clear hF hlim hJ
                go_simp
                exact hk
              | 2, ho =>
                simp only [List.getElem?_toArray, List.getElem?_cons_zero, List.getElem?_cons_succ, Option.some.injEq] at ho
                subst ho
                have e7 := hF.old 7 (.int .i64 (k : Int)) rfl rfl
                simp only [Act.eval] at e7
                clear hF hlim hJ
                go_simp
                exact hk
              | 3, ho =>
                simp only [List.getElem?_toArray, List.getElem?_cons_zero, List.getElem?_cons_succ, Option.some.injEq] at ho
                subst ho
                have e73 := hF.pure 1 73 (.slice (some ⟨tb, toff, none⟩) m cap) rfl rfl rfl rfl
                have e74 := hF.pure 2 74 (.int .i64 (k : Int)) rfl rfl rfl rfl
                exact wp_ix_i64 rfl e73 e74 (hkm) hk
              | 4, ho =>
                simp only [List.getElem?_toArray, List.getElem?_cons_zero, List.getElem?_cons_succ, Option.some.injEq] at ho
                subst ho
                have e75 := hF.pure 3 75 (.pointer (some ⟨tb, toff + k, none⟩)) rfl rfl rfl rfl
                have hxJ := hJ.ext3 HX5.out (Nat.le_refl _)
                have hcl := hxJ.cell (HC3.out.1)
                simp only [Act.eval] at e75
                clear hF hlim hJ
                go_simp
                exact hk
              | 5, ho =>
                simp only [List.getElem?_toArray, List.getElem?_cons_zero, List.getElem?_cons_succ, Option.some.injEq] at ho
                subst ho
                have e6 := hF.old 6 (.slice (some ⟨tb, toff, none⟩) m cap) rfl rfl
                simp only [Act.eval] at e6
                clear hF hlim hJ
                go_simp
                exact hk
              | 6, ho =>
                simp only [List.getElem?_toArray, List.getElem?_cons_zero, List.getElem?_cons_succ, Option.some.injEq] at ho
                subst ho
                have e7 := hF.old 7 (.int .i64 (k : Int)) rfl rfl
                simp only [Act.eval] at e7
                clear hF hlim hJ
                go_simp
                exact hk
              | 7, ho =>
                simp only [List.getElem?_toArray, List.getElem?_cons_zero, List.getElem?_cons_succ, Option.some.injEq] at ho
                subst ho
                have e78 := hF.pure 6 78 (.int .i64 (k : Int)) rfl rfl rfl rfl
                simp only [Act.eval] at e78
                have hwk : IntKind.i64.wrap ((k : Int) + 1) = (k : Int) + 1 := wrap_i64 (by omega) (by omega)
                clear hF hlim hJ
                go_simp
                first | exact hk | (rw [hwk]; exact hk)
              | 8, ho =>
                simp only [List.getElem?_toArray, List.getElem?_cons_zero, List.getElem?_cons_succ, Option.some.injEq] at ho
                subst ho
                have e77 := hF.pure 5 77 (.slice (some ⟨tb, toff, none⟩) m cap) rfl rfl rfl rfl
                have e79 := hF.pure 7 79 (.int .i64 ((k + 1 : Nat) : Int)) rfl rfl rfl rfl
                exact wp_ix_i64 rfl e77 e79 (hlt) hk
              | 9, ho =>
                simp only [List.getElem?_toArray, List.getElem?_cons_zero, List.getElem?_cons_succ, Option.some.injEq] at ho
                subst ho
                have e80 := hF.pure 8 80 (.pointer (some ⟨tb, toff + (k + 1), none⟩)) rfl rfl rfl rfl
                have hxJ := hJ.ext3 HX5.out (Nat.le_refl _)
                have hcl := hxJ.cell (HC3.out.2)
                simp only [Act.eval] at e80
                clear hF hlim hJ
                go_simp
                exact hk
              | 10, ho =>
                simp only [List.getElem?_toArray, List.getElem?_cons_zero, List.getElem?_cons_succ, Option.some.injEq] at ho
                subst ho
                have e76 := hF.pure 4 76 (.int .i64 fa) rfl rfl rfl rfl
                have e81 := hF.pure 9 81 (.int .i64 fb) rfl rfl rfl rfl
                exact wp_build2 44 (.tmp 76) (.tmp 81) rfl e76 e81 _ (by kernel_rfl) hk
              | 11, ho =>
                simp only [List.getElem?_toArray, List.getElem?_cons_zero, List.getElem?_cons_succ, Option.some.injEq] at ho
                subst ho
                have e8 := hF.old 8 (.slice SA (d.scr fa).length sc) rfl rfl
                simp only [Act.eval] at e8
                clear hF hlim hJ
                go_simp
                exact hk
              | 12, ho =>
                simp only [List.getElem?_toArray, List.getElem?_cons_zero, List.getElem?_cons_succ, Option.some.injEq] at ho
                subst ho
                have e82 := hF.pure 10 82 (.agg #[.int .i64 fa, .int .i64 fb]) rfl rfl rfl rfl
                have e83 := hF.pure 11 83 (.slice SA (d.scr fa).length sc) rfl rfl rfl rfl
                exact wp_build2 64 (.tmp 82) (.tmp 83) rfl e82 e83 _ (by kernel_rfl) hk
              | 13, ho => simp at hc
              | 14, ho => simp at hc
              | 15, ho => simp at hc
              | i + 16, ho => simp at ho
            · intro p c' o hp ho a w' us K' hl hJ hF hk
              match p, hp with
              | 0, hp =>
                obtain rfl : 13 = c' := by simpa using hp
                simp only [List.getElem?_toArray, List.getElem?_cons_zero, List.getElem?_cons_succ, Option.some.injEq] at ho
                subst ho
                obtain rfl : us = [] := List.eq_nil_of_length_eq_zero hl
                have e84 := hF.pure 12 84 (.agg #[.int .i64 fa, .int .i64 fb, .slice SA (d.scr fa).length sc]) rfl rfl rfl rfl
                have hB := Blk.new w' 64 #[.int .i64 fa, .int .i64 fb, .slice SA (d.scr fa).length sc]
                exact wp_buildOne 36 64 (.tmp 84) rfl [.int .i64 fa, .int .i64 fb, .slice SA (d.scr fa).length sc] e84 Tryz.underlying36 info_show (by simp) (by simp) (hk _ _ ⟨w'.heap.size, rfl, hB, Ext.alloc hJ _⟩)
              | 1, hp =>
                obtain rfl : 14 = c' := by simpa using hp
                simp only [List.getElem?_toArray, List.getElem?_cons_zero, List.getElem?_cons_succ, Option.some.injEq] at ho
                subst ho
                obtain ⟨u0, rfl⟩ := list_1 hl
                have e72 := hF.pure 0 72 (.slice (some ⟨g, 0, none⟩) (j + 1) vc) rfl rfl rfl rfl
                have e85 := hF.link 0 13 85 _ rfl rfl rfl rfl
                obtain ⟨gn, hu, hB, hxJ⟩ := hJ
                rw [hu] at e85
                refine wp_append1w (.tmp 72) (.tmp 85) 36 rfl info_show Tryz.underlying36 rfl (by decide) (own_ext HO5.out.1 hxJ) e72 gn _ e85 hB (by exact rfl) (by simp [shVals, Value.oneCell']) (by omega) (by simp [maxLen]; omega) (by have := hxJ.size; omega) ?_
                intro v' w6 hown6 hgr
                exact hk v' w6 ⟨(HO5.out.ext hxJ).snoc (p := (⟨fa, fb, d.scr fa⟩, SA, sc)) (HS5.out.ext hxJ) hown6 hgr, fun B hB hb => (hB.trans hxJ).grown hgr (fun q hq => by have := own_lt HO5.out.1 q hq; omega)⟩
              | 2, hp =>
                obtain rfl : 15 = c' := by simpa using hp
                simp only [List.getElem?_toArray, List.getElem?_cons_zero, List.getElem?_cons_succ, Option.some.injEq] at ho
                subst ho
                obtain ⟨u0, u1, rfl⟩ := list_2 hl
                have e86 := hF.link 1 14 86 _ rfl rfl rfl rfl
                have HK := Lib.hid (hk u1 w' ⟨rfl, hJ⟩)
                simp only [Act.eval] at e86
                clear hk hF hJ
                go_simp
                exact HK.out
              | p + 3, hp => simp at hp
            intro us w6 hl hJ
            obtain ⟨u0, u1, u2, rfl⟩ := list_3 hl
            first | (rename_i hK; refine hK _ _ ?_; clear hK) | (rename_i hK hK_1; refine hK _ _ ?_; clear hK) | (rename_i hK hK_1 hK_2; refine hK _ _ ?_; clear hK) | (rename_i hK hK_1 hK_2 hK_3; refine hK _ _ ?_; clear hK)
            generalize hL : frameL _ _ _ _ = L
            obtain rfl : L = [(72, .slice (some ⟨g, 0, none⟩) (j + 1) vc), (73, .slice (some ⟨tb, toff, none⟩) m cap), (74, .int .i64 (k : Int)), (75, .pointer (some ⟨tb, toff + k, none⟩)), (76, .int .i64 fa), (77, .slice (some ⟨tb, toff, none⟩) m cap), (78, .int .i64 (k : Int)), (79, .int .i64 ((k + 1 : Nat) : Int)), (80, .pointer (some ⟨tb, toff + (k + 1), none⟩)), (81, .int .i64 fb), (82, .agg #[.int .i64 fa, .int .i64 fb]), (83, .slice SA (d.scr fa).length sc), (84, .agg #[.int .i64 fa, .int .i64 fb, .slice SA (d.scr fa).length sc]), (85, u0), (86, u1), (5, u2)] := hL.symm.trans (by kernel_rfl)
            clear hL hl
            simp only [Act.put, List.foldl_cons, List.foldl_nil, List.setIfInBounds_toArray, List.set_cons_zero, List.set_cons_succ]
            obtain ⟨hu9, hO6, hX6⟩ := hJ
            subst hu9
            have HO6 := Lib.hid hO6
            have HX6 : Hid (Ext w3 w6) := hX6 w3 HX5.out (Nat.le_refl _)
            clear hO6 hX6
            go_wp2_with fail
            refine ⟨⟨k + 1, ps ++ [(⟨fa, fb, d.scr fa⟩, SA, sc)], by rw [HMl.out]; omega, by go_num, HX6.out, HO6.out, ?_⟩, by have := HMl.out; simp [intOf]; omega⟩
            rw [HStp.out, List.map_append, HM.out]
            unfold shStep
            rw [if_neg HNe.out, if_neg (by rw [HGo.out]; simp)]
            rfl
    · have hmm : d.tms.take (k + 1) = d.tms := List.take_of_length_le (by rw [HMl.out]; omega)
      have HMf := HM.out
      rw [hmm] at HMf
      have HMF := Lib.hid HMf
      have HXf := Lib.hid (HX3.out.trans HX.out)
      clear HMf hmm HM HX HX3
      go_wp2_with fail
      go_ret2
      rw [HV2.out, HOk.out]
      exact HO.out.post HMF.out HXf.out
/-- two lists of the same shows are equal -/
theorem neq_span (a b : Int) (w : World) : (binOp .neq 44 (.agg #[.int .i64 a, .int .i64 b]) (.agg #[.int .i64 a, .int .i64 b])).run Tryz.prog w = .ok (.bool false) w := by
  go_simp
set_option maxRecDepth 100000 in
set_option maxHeartbeats 8000000 in
theorem SameShows_any (A : Option Addr) (c : Nat) (ps : List ShP) (B : Option Addr) (c2 : Nat) (qs : List ShP) (l : List Sh) (w : World) (h1 : ps.map (·.1) = l) (h2 : qs.map (·.1) = l) (hS1 : Sl w 3 (Cells shVals) A l.length ps) (hS2 : Sl w 3 (Cells shVals) B l.length qs) (hc1 : ∀ p ∈ ps, ScrIn w p) (hc2 : ∀ p ∈ qs, ScrIn w p) (hl : ∀ x ∈ l, x.scr.length ≤ 480) (hn : l.length ≤ 1000000) :
    Calls Tryz.prog 19 #[.slice A l.length c, .slice B l.length c2] w fun e w' => e = .returned (.bool true) ∧ Ext w w' := by
  have HS1 := Lib.hid hS1
  have HS2 := Lib.hid hS2
  have HC1 := Lib.hid hc1
  have HC2 := Lib.hid hc2
  have H1 := Lib.hid h1
  have H2 := Lib.hid h2
  have HL := Lib.hid hl
  clear hS1 hS2 hc1 hc2 h1 h2 hl
  go_enter Tryz.func19, Tryz.ntmps19
  go_wp2_with fail
  go_loopw [13] (fun i wr => ∃ k : Nat, k ≤ l.length ∧ i = .int .i64 k ∧ Ext w wr) (fun i _ => l.length - (intOf i).toNat)
  case atStart => exact ⟨0, Nat.zero_le _, rfl, Ext.refl _⟩
  case round =>
    obtain ⟨k, hk, rfl, hx⟩ := hrel
    have HX := Lib.hid hx
    clear hx
    by_cases hlt : k < l.length
    · obtain ⟨b, off, p, rfl, hp, hC⟩ := (Sl.ext (Cells.stays _) HS1.out HX.out).at_ hlt
      obtain ⟨b2, off2, q, rfl, hq, hD⟩ := (Sl.ext (Cells.stays _) HS2.out HX.out).at_ hlt
      have e1 : l[k]? = some p.1 := by rw [← H1.out, List.getElem?_map, hp]; rfl
      have e2 : l[k]? = some q.1 := by rw [← H2.out, List.getElem?_map, hq]; rfl
      obtain ⟨pl, pa, pc⟩ := p
      obtain ⟨ql, qa, qc⟩ := q
      obtain rfl : pl = ql := by simp only at e1 e2; rw [e1] at e2; exact Option.some.inj e2
      have c0 : wr.cell? ⟨b, off + k * 3, none⟩ = some (.int .i64 pl.inn) := by simpa using hC 0 _ rfl
      have c1 : wr.cell? ⟨b, off + k * 3 + 1, none⟩ = some (.int .i64 pl.out) := hC 1 _ rfl
      have c2 : wr.cell? ⟨b, off + k * 3 + 2, none⟩ = some (.slice pa pl.scr.length pc) := hC 2 _ rfl
      have d0 : wr.cell? ⟨b2, off2 + k * 3, none⟩ = some (.int .i64 pl.inn) := by simpa using hD 0 _ rfl
      have d1 : wr.cell? ⟨b2, off2 + k * 3 + 1, none⟩ = some (.int .i64 pl.out) := hD 1 _ rfl
      have d2 : wr.cell? ⟨b2, off2 + k * 3 + 2, none⟩ = some (.slice qa pl.scr.length qc) := hD 2 _ rfl
      have hs4 := HL.out pl (List.mem_of_getElem? e1)
      have HG1 := Lib.hid ((HC1.out _ (List.mem_of_getElem? hp)).gls.ext HX.out)
      have HG2 := Lib.hid ((HC2.out _ (List.mem_of_getElem? hq)).gls.ext HX.out)
      have hSm := fun w' (hx : Ext wr w') => R32Same_any pa pl.scr.length pc qa pl.scr.length qc pl.scr pl.scr w' (HG1.out.ext hx) (HG2.out.ext hx) (by omega)
      simp only [decide_true] at hSm
      have HSm := Lib.hid hSm
      clear hC hD hp hq e1 e2 hSm
      have hne := fun w => neq_span pl.inn pl.out w
      have r0 := fun (x : EW wr) => x.ext.cell c0
      have r1 := fun (x : EW wr) => x.ext.cell c1
      have r2 := fun (x : EW wr) => x.ext.cell c2
      have r3 := fun (x : EW wr) => x.ext.cell d0
      have r4 := fun (x : EW wr) => x.ext.cell d1
      have r5 := fun (x : EW wr) => x.ext.cell d2
      clear c0 c1 c2 d0 d1 d2
      go_upto_region 6 with fail
      refine wp_region_ew wr (Ext.refl _) (by kernel_rfl) (by kernel_rfl) ?_
      repeat (go_big_quiet_step ((go_at_call 16; with_reducible exact EW.calls _ (HSm.out _ (EW.ext _)))))
      refine wpQuiet_nil ?_
      rintro w5 ⟨⟨_, hx5⟩, rfl⟩
      try dsimp only
      have HX5 := Lib.hid (HX.out.trans hx5)
      clear r0 r1 r2 r3 r4 r5 hx5
      go_wp2_with fail
      exact ⟨⟨k + 1, by omega, by go_num, HX5.out⟩, by simp [intOf]; omega⟩
    · go_wp2_with fail
      go_ret
      exact ⟨rfl, HX.out⟩
end Go.Proofs.YtajbhfmdmajpmaaGreatDoor
