/- The walk of the reference's Retime. -/
import Derived.Test.YtbfaghgjbipilaaGreatDoorPRetRP
namespace Go.Proofs.YtbfaghgjbipilaaGreatDoor
set_option linter.unusedVariables false
set_option linter.unusedSimpArgs false
open Go.RowKit
theorem run_appendSq {α : Type} {f : α → List Value} {P : Program} (w : World) (t ty : TypeId) {base : Nat} {e : TypeId} {z : Value} {size bytes : Nat} (inf : (P.info? e).map (fun i => (i.zero, i.size, i.bytes)) = some (some z, size, bytes)) (ht : P.underlying t = some (.slice e)) (hzs : z.cells.size = size) (hsz : 0 < size)
    {v : Value} {n : Nat} {xs : List Value} (hown : w.ownsRow base e size v n xs) {A : Option Addr} {m c : Nat} {l : List α} (hS : Sl w size (Cells f) A m l) (hf : ∀ x, (f x).length = size) (h1 : ∀ x, ∀ u ∈ f x, u.oneCell' = true)
    (hroom : (n + m) * bytes ≤ 140737488355328) (hmax : n + m ≤ maxLen) (hbase : base ≤ w.heap.size) :
    ∃ v' w', (Builtin.append_ #[t, t] ty #[v, .slice A m c]).run P w = .ok v' w' ∧ w'.ownsRow base e size v' (n + m) (xs ++ l.flatMap f) ∧ w.grownBy w' v.ownBlock := by
  obtain ⟨i, hi, hz0, hz1, hz2⟩ := info_parts inf
  have hlen : (l.flatMap f).length = m * size := by rw [flatMap_len f size hf, hS.len]
  cases A with
  | none =>
    have hm : m = 0 := by
      rcases Nat.eq_zero_or_pos m with h0 | h0
      · exact h0
      · obtain ⟨_, _, h, _⟩ := hS.2 h0
        cases h
    subst hm
    obtain rfl : l = [] := List.eq_nil_of_length_eq_zero hS.len
    exact ⟨v, w, run_append_of_nil (P := P) w base t ty e i size ht hi v n xs hown c, by simpa using hown, World.grownBy.refl w _⟩
  | some ad =>
    obtain ⟨v', w', hrun, h2, h3, _, h5⟩ := run_append_own_at (P := P) w base t ty e i z size bytes ht hi hz0 hz1 hz2 hzs hsz v n xs hown ad m c (l.flatMap f) hlen (fun j u hu => by
      rcases Nat.eq_zero_or_pos m with h0 | h0
      · subst h0
        obtain rfl : l = [] := List.eq_nil_of_length_eq_zero hS.len
        simp at hu
      · obtain ⟨b, off, hA, hc⟩ := hS.2 h0
        cases hA
        exact sl_news hf hS.len hc j u hu) (flatMap_one h1 l) hmax hroom hbase
    exact ⟨v', w', hrun, h2, h3⟩
theorem wp_appendSq {α : Type} {f : α → List Value} {P : Program} {o : Oper} {a : Act} {w : World} {K : Act → World → Prop} {Q : Exit → Act → World → Prop} (s x : Operand) (t : TypeId)
    (ho : o.op = .call { callee := .builtin .append, args := #[s, x], argTypes := #[t, t] })
    {base : Nat} {e : TypeId} {z : Value} {size bytes : Nat} (inf : (P.info? e).map (fun i => (i.zero, i.size, i.bytes)) = some (some z, size, bytes)) (ht : P.underlying t = some (.slice e)) (hzs : z.cells.size = size) (hsz : 0 < size)
    {v : Value} {n : Nat} {xs : List Value} (hown : w.ownsRow base e size v n xs) (hs : a.eval s = v) {A : Option Addr} {m c : Nat} {l : List α} (hx : a.eval x = .slice A m c) (hS : Sl w size (Cells f) A m l) (hf : ∀ x, (f x).length = size) (h1 : ∀ x, ∀ u ∈ f x, u.oneCell' = true)
    (hroom : (n + m) * bytes ≤ 140737488355328) (hmax : n + m ≤ maxLen) (hbase : base ≤ w.heap.size)
    (h : ∀ v' w', w'.ownsRow base e size v' (n + m) (xs ++ l.flatMap f) → w.grownBy w' v.ownBlock → K (a.put o.dst v') w') : o.wp P a w K Q := by
  obtain ⟨v', w', hrun, h2, h3⟩ := run_appendSq (P := P) w t o.type inf ht hzs hsz hown (c := c) hS hf h1 hroom hmax hbase
  unfold Oper.wp execOp
  simp only [ho, resolve, invoke, builtin, Sem.run_bind, Sem.run_pure, Result.andThen_ok, List.map_toArray, List.map_cons, List.map_nil, hs, hx, hrun]
  exact h v' w' h2 h3
/-- two stores into a block of an event, one after the other, in a drawn region -/
structure E2J (C : Nat) (cs1 cs2 : Array Value) (W : World) (us : List Value) (w' : World) : Prop where
  only : Only 51 W w'
  nil : us = [] → Ext W w'
  one : ∀ u, us = [u] → ∃ w5, Ext W w5 ∧ w' = putB w5 C 51 cs1
  two : ∀ u u1, us = [u, u1] → ∃ w5, Ext W w5 ∧ w' = putB w5 C 51 cs2
section
variable {C : Nat} {cs0 cs1 cs2 : Array Value} {W w' : World} {u0 u1 : Value}
theorem E2J.start (W : World) : E2J C cs1 cs2 W [] W.drew := ⟨Only.ext (Ext.refl W).drew, fun _ => (Ext.refl W).drew, fun u h => by simp at h, fun u u1 h => by simp at h⟩
theorem E2J.first (h : E2J C cs1 cs2 W [] w') (hB : Blk W C 51 cs0) : E2J C cs1 cs2 W ([] ++ [u0]) (putB w' C 51 cs1) :=
  ⟨(Only.ext (h.nil rfl)).trans (Only.put (hB.ext (h.nil rfl))), fun h => by simp at h, fun u hu => ⟨w', h.nil rfl, rfl⟩, fun u u1 h => by simp at h⟩
theorem Blk.away {w w1 : World} {g : Nat} {t : TypeId} {cs : Array Value} {row : Option Nat} (h : Blk w g t cs) (hg : w.grownBy w1 row) (hne : some g ≠ row) : Blk w1 g t cs := (hg.block g h.lt hne).trans h
theorem wp_alloc_doc {o : Oper} {a : Act} {w : World} {K : Act → World → Prop} {Q : Exit → Act → World → Prop} (ho : o.op = .alloc 27) (h : K (a.put o.dst (.pointer (some ⟨w.heap.size, 0, none⟩))) (w.alloc (.cells docZero 27))) : o.wp Tryz.prog a w K Q := by
  obtain ⟨dst, op, ty, pos, after, guard⟩ := o
  simp only at ho
  subst ho
  unfold docZero at h
  go_simp
  exact h
theorem E2J.second (h : E2J C cs1 cs2 W [u0] w') (hB : Blk W C 51 cs0) : E2J C cs1 cs2 W ([u0] ++ [u1]) (putB w' C 51 cs2) := by
  obtain ⟨w5, hx, rfl⟩ := h.one u0 rfl
  refine ⟨h.only.trans (Only.put ((hB.ext hx).put cs1)), fun h => by simp at h, fun u h => by simp at h, fun u v e => ⟨w5, hx, by rw [putB_putB]⟩⟩
end

set_option maxRecDepth 100000 in
set_option maxHeartbeats 16000000 in
theorem R47Retime_any (d : Doc) (h : DocH) (b m : Int) (drop : Bool) (w : World) (hE : Env w) (hat : DocAt w d h) (hf : DocFit d) (hrn : h.rn ≤ 9223372036854775807) (hn : h.en ≤ 1000000) (hcn : h.cn ≤ 9223372036854775807) (b0 : 0 ≤ b) (b1 : b ≤ 255) :
    Calls Tryz.prog 56 #[.agg (d.cells h), .int .u8 b, .bool drop, .int .u8 m] w (RetPost d b drop m w) := by
  have HX := Lib.hid (((Ext.refl w).alloc (.cells (d.cells h) 27)).alloc (.cells docZero 27))
  have HB := Lib.hid ((Blk.new w 27 (d.cells h)).alloc (.cells docZero 27))
  have HZ := Lib.hid (Blk.new' (w := w.alloc (.cells (d.cells h) 27)) (g := w.heap.size + 1) (t := 27) (cs := docZero) (by simp))
  have HCk := Lib.hid (fun w' (hx : Ext w w') => R12Check_any d h w' (hE.ext hx) (hat.ext hx) hf hrn hn hcn)
  have HNum := Lib.hid (fun id w' (hx : Ext w w') => R47number_any d h id w' (hat.evs.ext hx) hn)
  have HFt := Lib.hid hf
  have HAt := Lib.hid hat
  have HR := Lib.hid hat.regs.vals
  have HRl := Lib.hid hat.regs.len
  have HKl := Lib.hid hat.coms.len
  have HEl := Lib.hid hat.evs.len
  have R1 := Lib.hid (@ret_1 d b m drop)
  have R2 := Lib.hid (@ret_2 d b m drop)
  have R3 := Lib.hid (@ret_3 d b m drop)
  have R4 := Lib.hid (@ret_4 d b m drop)
  have HV := Lib.hid (fun w => R2Valid_ext b w b0 b1)
  have HD := Lib.hid (fun w => R2CanDrop_any b w)
  have HTb := Lib.hid (fun w => RTicks_any b w b0 b1)
  clear hE hat hf
  obtain ⟨hra, rn, hrc, hea, n, hec, hca, cn, hcc⟩ := h
  dsimp only at *
  unfold Doc.cells docZero at HX HB HZ
  unfold Doc.cells at HCk HNum ⊢
  dsimp only at *
  have END : ∀ (w9 : World) (e : Int), Ext w w9 → Blk w9 (w.heap.size + 1) 27 docZero → d.retE b drop m = e → e ≠ 0 → ∀ (tmps : Array Value), tmps.getD 8 undef = .pointer (some ⟨w.heap.size + 1, 0, none⟩) → tmps.getD 9 undef = .slice none 0 0 → tmps.getD 10 undef = .int .i64 e →
      (results Tryz.f56 tmps).run Tryz.prog (putB w9 (w.heap.size + 1) 27 docZero) = .ok (.tuple #[.agg docZero, .slice none 0 0, .int .i64 e]) (putB w9 (w.heap.size + 1) 27 docZero) ∧
        RetPost d b drop m w (.returned (.tuple #[.agg docZero, .slice none 0 0, .int .i64 e])) (putB w9 (w.heap.size + 1) 27 docZero) := fun w9 e hx hz he h0 tmps h8 h9 h10 => by
    refine ⟨?_, retPost_err he h0 (hx.put (by omega) _ _) rfl⟩
    have := results_B_tmp2 (P := Tryz.prog) Tryz.results56 (tmps := tmps) (w := putB w9 (w.heap.size + 1) 27 docZero) (g := w.heap.size + 1) h8 (hz.put _) Tryz.underlying27 rfl size_docI
    rw [this, h9, h10]
  have HEnd := Lib.hid END
  clear END
  go_enter Tryz.func56, Tryz.ntmps56
  go_wp2_with (refine wpList_loadB rfl 27 (.tmp 4) rfl w.heap.size 27 _ _ (by exact rfl) (by exact HB.out) Tryz.underlying27 rfl (by exact size_docI) ?_)
  refine (HCk.out _ HX.out).mono ?_
  rintro en w1 ⟨rfl, hx1⟩
  have HX1 := Lib.hid (HX.out.trans hx1)
  have HB1 := Lib.hid (HB.out.ext hx1)
  have HZ1 := Lib.hid (HZ.out.ext hx1)
  clear hx1 HX HB HZ HCk
  by_cases h0 : d.err = 0
  case neg =>
    have hne : (d.err != 0) = true := by simpa using h0
    have HH := Lib.hid h0
    clear h0
    go_wp2_with (refine wpList_storeB rfl 27 (.tmp 8) _ rfl (w.heap.size + 1) 27 _ _ (by exact rfl) (by exact rfl) (by exact HZ1.out) (by exact rfl) (by exact size_docI) (by simp [Value.oneCell']) ?_)
    exact (fun q => bodyPost_ret q.1 rfl q.2) (HEnd.out _ _ HX1.out HZ1.out (R1.out HH.out) HH.out _ (by exact rfl) (by exact rfl) (by exact rfl))
  rw [h0]
  have HH := Lib.hid h0
  clear h0 R1
  go_upto_region 4 with fail
  go_cut [2, 39] (fun s2 s39 wr => s2 = .bool drop ∧ s39 = .bool (!rateOkB b drop) ∧ Ext w1 wr)
  case first =>
    cases hv : rOk b
    · have HO := Lib.hid hv
      have HRt : Hid (rateOkB b drop = false) := by show _ = _; unfold rateOkB; rw [hv]; rfl
      clear hv
      go_wp2_with fail
      refine (HV.out _).mono ?_
      rintro en w2 ⟨rfl, hx2⟩
      rw [HO.out]
      go_wp2_with fail
      go_meet
      case rel => exact ⟨rfl, by rw [HRt.out]; rfl, hx2⟩
    have HO := Lib.hid hv
    have HRv : Hid (rateOkB b drop = (!drop || rDrop b)) := by show _ = _; unfold rateOkB; rw [hv]; rfl
    clear hv
    cases hd : drop
    case false =>
      have HRt : Hid (rateOkB b false = true) := by show _ = _; rw [hd] at HRv; exact HRv.out
      go_wp2_with fail
      refine (HV.out _).mono ?_
      rintro en w2 ⟨rfl, hx2⟩
      rw [HO.out]
      go_wp2_with fail
      go_meet
      case rel => exact ⟨by rw [hd], by first | (rw [hd, HRt.out]; rfl) | (rw [HRt.out]; rfl), hx2⟩
    case true =>
      rw [hd] at HRv
      have HRw : Hid (rateOkB b true = rDrop b) := by show _ = _; rw [HRv.out]; rfl
      cases hc : rDrop b
      · have HCd := Lib.hid hc
        go_wp2_with fail
        refine (HV.out _).mono ?_
        rintro en w2 ⟨rfl, hx2⟩
        rw [HO.out]
        go_wp2_with fail
        refine (HD.out _).mono ?_
        rintro en w3 ⟨rfl, hx3⟩
        subst hx3
        rw [HCd.out]
        go_wp2_with fail
        go_meet
        case rel => exact ⟨by rw [hd], by first | (rw [hd, HRw.out, HCd.out]; rfl) | (rw [HRw.out, HCd.out]; rfl), hx2⟩
      · have HCd := Lib.hid hc
        go_wp2_with fail
        refine (HV.out _).mono ?_
        rintro en w2 ⟨rfl, hx2⟩
        rw [HO.out]
        go_wp2_with fail
        refine (HD.out _).mono ?_
        rintro en w3 ⟨rfl, hx3⟩
        subst hx3
        rw [HCd.out]
        go_wp2_with fail
        go_meet
        case rel => exact ⟨by rw [hd], by first | (rw [hd, HRw.out, HCd.out]; rfl) | (rw [HRw.out, HCd.out]; rfl), hx2⟩
  case rest =>
  obtain ⟨rfl, rfl, hx2⟩ := hcut
  rename_i w2
  have HX2 := Lib.hid (HX1.out.trans hx2)
  have HB2 := Lib.hid (HB1.out.ext hx2)
  have HZ2 := Lib.hid (HZ1.out.ext hx2)
  clear hx2 HX1 HB1 HZ1
  cases hrt : rateOkB b drop
  · have HRt := Lib.hid hrt
    clear hrt
    go_wp2_with (refine wpList_storeB rfl 27 (.tmp 8) _ rfl (w.heap.size + 1) 27 _ _ (by exact rfl) (by exact rfl) (by exact HZ2.out) (by exact rfl) (by exact size_docI) (by simp [Value.oneCell']) ?_)
    exact (fun q => bodyPost_ret q.1 rfl q.2) (HEnd.out _ _ HX2.out HZ2.out (R2.out HH.out HRt.out) (by decide) _ (by exact rfl) (by exact rfl) (by exact rfl))
  have HRt := Lib.hid hrt
  clear hrt R2
  go_wp2_with fail
  refine (RKnown_any47 m _).mono ?_
  rintro en w4 ⟨rfl, hx4⟩
  subst hx4
  cases hk : decide (m = 1 ∨ m = 2)
  · have HM : Hid (¬ (m = 1 ∨ m = 2)) := by show ¬ _; exact of_decide_eq_false hk
    clear hk
    go_wp2_with (refine wpList_storeB rfl 27 (.tmp 8) _ rfl (w.heap.size + 1) 27 _ _ (by exact rfl) (by exact rfl) (by exact HZ2.out) (by exact rfl) (by exact size_docI) (by simp [Value.oneCell']) ?_)
    exact (fun q => bodyPost_ret q.1 rfl q.2) (HEnd.out _ _ HX2.out HZ2.out (R3.out HH.out HRt.out HM.out) (by decide) _ (by exact rfl) (by exact rfl) (by exact rfl))
  have HM : Hid (m = 1 ∨ m = 2) := by show _ ∨ _; exact of_decide_eq_true hk
  clear hk R3
  obtain ⟨k1, k2, k3, k4, k5, k6⟩ := doc_ok HH.out
  have hr16 : d.regs.length ≤ 16 := by
    unfold regsErr at k2
    split at k2
    · simp at k2
    · omega
  have r0 := HFt.out.ok.r0
  have r1 := HFt.out.ok.r1
  have HTa := Lib.hid (fun w => RTicks_any d.rate w r0 r1)
  have hrn5 : rn ≤ 16 := by have := HRl.out; omega
  have hcn7 : cn * 72 ≤ 140737488355328 := by have := HKl.out; omega
  have HK4 := Lib.hid k4
  have HK6 := Lib.hid k6
  clear k1 k2 k4 k6
  go_upto_region 8 with fail
  refine wp_region_allocs [some 45, some 46, some 47, some 48, some 49, some 50, some 51, some 52, some 53, some 54, some 55, some 12, none] [[], [0], [], [2], [], [], [], [], [7], [6, 8], [1, 3, 4, 5, 9], [], [11, 10, 9, 0, 1, 2, 3, 4, 5, 6, 7, 8, 9, 10, 11]] [6, 9, 10, 12] [11] [.pointer (some ⟨w.heap.size, 0, none⟩), .string d.title, .pointer (some ⟨w.heap.size, 1, none⟩), .string d.lang, .int .u8 b, .bool drop, undef, .pointer (some ⟨w.heap.size, 5, none⟩), .slice hra rn hrc, undef, undef, undef, undef] (fun _ => .cells docZero 27) (R8J d b drop wc.heap.size rn wc) (by kernel_rfl) (by kernel_rfl) (by kernel_rfl) (by kernel_rfl) (by kernel_rfl) (by kernel_rfl) (by kernel_rfl) (by decide) (by kernel_rfl) ?_ ?_ ?_ ?_ ?_ ?_
  · exact R8J.start wc
  · intro i o ho ha a w' K' hk
    match i, ho with
    | 0, ho => simp at ha
    | 1, ho => simp at ha
    | 2, ho => simp at ha
    | 3, ho => simp at ha
    | 4, ho => simp at ha
    | 5, ho => simp at ha
    | 6, ho => simp at ha
    | 7, ho => simp at ha
    | 8, ho => simp at ha
    | 9, ho => simp at ha
    | 10, ho => simp at ha
    | 11, ho =>
      simp only [List.getElem?_toArray, List.getElem?_cons_zero, List.getElem?_cons_succ, Option.some.injEq] at ho
      subst ho
      exact wp_alloc_doc rfl hk
    | 12, ho => simp at ha
    | i + 13, ho => simp at ho
  · intro i ha us gs w' hJ hn hlim
    match i, ha with
    | 0, ha => simp at ha
    | 1, ha => simp at ha
    | 2, ha => simp at ha
    | 3, ha => simp at ha
    | 4, ha => simp at ha
    | 5, ha => simp at ha
    | 6, ha => simp at ha
    | 7, ha => simp at ha
    | 8, ha => simp at ha
    | 9, ha => simp at ha
    | 10, ha => simp at ha
    | 11, ha => exact hJ.alloc (by have := hlim 3 12 rfl rfl; omega)
    | 12, ha => simp at ha
    | i + 13, ha => simp at ha
  · intro i o ho hc ha a w' us gs K' hJ hF hlim hk
    match i, ho with
    | 0, ho =>
      simp only [List.getElem?_toArray, List.getElem?_cons_zero, List.getElem?_cons_succ, Option.some.injEq] at ho
      subst ho
      have e4 := hF.old 4 (.pointer (some ⟨w.heap.size, 0, none⟩)) rfl rfl
      simp only [Act.eval] at e4
      clear hF hlim hJ
      go_simp
      exact hk
    | 1, ho =>
      simp only [List.getElem?_toArray, List.getElem?_cons_zero, List.getElem?_cons_succ, Option.some.injEq] at ho
      subst ho
      have e45 := hF.pure 0 45 (.pointer (some ⟨w.heap.size, 0, none⟩)) rfl rfl rfl rfl rfl
      have hcl : w'.cell? ⟨w.heap.size, 0, none⟩ = some (.string d.title) := (HB2.out.ext hJ.ext).cell 0
      simp only [Act.eval] at e45
      clear hF hlim hJ
      go_simp
      exact hk
    | 2, ho =>
      simp only [List.getElem?_toArray, List.getElem?_cons_zero, List.getElem?_cons_succ, Option.some.injEq] at ho
      subst ho
      have e4 := hF.old 4 (.pointer (some ⟨w.heap.size, 0, none⟩)) rfl rfl
      simp only [Act.eval] at e4
      clear hF hlim hJ
      go_simp
      exact hk
    | 3, ho =>
      simp only [List.getElem?_toArray, List.getElem?_cons_zero, List.getElem?_cons_succ, Option.some.injEq] at ho
      subst ho
      have e47 := hF.pure 2 47 (.pointer (some ⟨w.heap.size, 1, none⟩)) rfl rfl rfl rfl rfl
      have hcl : w'.cell? ⟨w.heap.size, 1, none⟩ = some (.string d.lang) := (HB2.out.ext hJ.ext).cell 1
      simp only [Act.eval] at e47
      clear hF hlim hJ
      go_simp
      exact hk
    | 4, ho =>
      simp only [List.getElem?_toArray, List.getElem?_cons_zero, List.getElem?_cons_succ, Option.some.injEq] at ho
      subst ho
      have e1 := hF.old 1 (.int .u8 b) rfl rfl
      simp only [Act.eval] at e1
      clear hF hlim hJ
      go_simp
      exact hk
    | 5, ho =>
      simp only [List.getElem?_toArray, List.getElem?_cons_zero, List.getElem?_cons_succ, Option.some.injEq] at ho
      subst ho
      have e2 := hF.old 2 (.bool drop) rfl rfl
      simp only [Act.eval] at e2
      clear hF hlim hJ
      go_simp
      exact hk
    | 6, ho => simp at hc
    | 7, ho =>
      simp only [List.getElem?_toArray, List.getElem?_cons_zero, List.getElem?_cons_succ, Option.some.injEq] at ho
      subst ho
      have e4 := hF.old 4 (.pointer (some ⟨w.heap.size, 0, none⟩)) rfl rfl
      simp only [Act.eval] at e4
      clear hF hlim hJ
      go_simp
      exact hk
    | 8, ho =>
      simp only [List.getElem?_toArray, List.getElem?_cons_zero, List.getElem?_cons_succ, Option.some.injEq] at ho
      subst ho
      have e52 := hF.pure 7 52 (.pointer (some ⟨w.heap.size, 5, none⟩)) rfl rfl rfl rfl rfl
      have hcl : w'.cell? ⟨w.heap.size, 5, none⟩ = some (.slice hra rn hrc) := (HB2.out.ext hJ.ext).cell 5
      simp only [Act.eval] at e52
      clear hF hlim hJ
      go_simp
      exact hk
    | 9, ho => simp at hc
    | 10, ho => simp at hc
    | 11, ho => simp at ha
    | 12, ho => simp at hc
    | i + 13, ho => simp at ho
  · intro p c' o hp ho a w' us gs K' hl hJ hF hk
    match p, hp with
    | 0, hp =>
      obtain rfl : 6 = c' := by simpa using hp
      simp only [List.getElem?_toArray, List.getElem?_cons_zero, List.getElem?_cons_succ, Option.some.injEq] at ho
      subst ho
      obtain rfl : us = [] := List.eq_nil_of_length_eq_zero hl
      have HK := Lib.hid (hk (.slice (some ⟨w'.heap.size, 0, none⟩) 0 0) (w'.alloc (.cells #[] 95)) (hJ.s0 (Nat.le_refl _)))
      clear hk hF hJ
      go_simp
      exact HK.out
    | 1, hp =>
      obtain rfl : 9 = c' := by simpa using hp
      simp only [List.getElem?_toArray, List.getElem?_cons_zero, List.getElem?_cons_succ, Option.some.injEq] at ho
      subst ho
      obtain ⟨u0, rfl⟩ := list_1 hl
      have e51 := hF.link 0 6 51 _ rfl rfl rfl rfl
      have e53 := hF.pure 8 53 (.slice hra rn hrc) rfl rfl rfl rfl rfl
      exact wp_appendSq (.tmp 51) (.tmp 53) 23 rfl info_regI Tryz.underlying23 rfl (by decide) (hJ.nil rfl) e51 e53 (Sl.ext (Cells.stays _) HR.out (HX2.out.trans hJ.ext)) (fun _ => rfl) reg_ones (by omega) (by simp [maxLen]; omega) hJ.ext.size (fun v' w9 ho hg => hk v' w9 (hJ.s1 hg (by simpa using ho) (own_lt (hJ.nil rfl))))
    | 2, hp =>
      obtain rfl : 10 = c' := by simpa using hp
      simp only [List.getElem?_toArray, List.getElem?_cons_zero, List.getElem?_cons_succ, Option.some.injEq] at ho
      subst ho
      obtain ⟨u0, u1, rfl⟩ := list_2 hl
      obtain ⟨A1, c1, hu1⟩ := own_isSlice (hJ.own (by simp))
      obtain rfl : u1 = .slice A1 rn c1 := hu1
      have e46 := hF.pure 1 46 (.string d.title) rfl rfl rfl rfl rfl
      have e48 := hF.pure 3 48 (.string d.lang) rfl rfl rfl rfl rfl
      have e49 := hF.pure 4 49 (.int .u8 b) rfl rfl rfl rfl rfl
      have e50 := hF.pure 5 50 (.bool drop) rfl rfl rfl rfl rfl
      have e54 := hF.link 1 9 54 _ rfl rfl rfl rfl
      have HK := Lib.hid (hk _ _ hJ.s2)
      unfold ocells at HK
      simp [Act.eval] at e46 e48 e49 e50 e54
      clear hk hF hJ
      go_simp
      exact HK.out
    | 3, hp =>
      obtain rfl : 12 = c' := by simpa using hp
      simp only [List.getElem?_toArray, List.getElem?_cons_zero, List.getElem?_cons_succ, Option.some.injEq] at ho
      subst ho
      obtain ⟨u0, u1, u2, rfl⟩ := list_3 hl
      obtain ⟨A1, c1, hu1⟩ := own_isSlice (hJ.own (by simp))
      obtain rfl : u1 = .slice A1 rn c1 := hu1
      obtain ⟨g12, hg12, e12⟩ := hF.ptr 11 12 rfl rfl rfl rfl
      have e55 := hF.link 2 10 55 _ rfl rfl rfl rfl
      have e55' : a.eval (.tmp 55) = .agg (ocells d b drop 0 (.slice A1 rn c1) (.slice none 0 0) (.slice none 0 0)) := e55.trans (hJ.agg (by simp))
      have hb12 : Blk w' g12 27 docZero := by simpa using (hJ.blk _ hg12).2
      exact wp_storeB 27 (.tmp 12) (.tmp 55) rfl g12 27 _ _ e12 e55' (by exact size_docI) (by simp [ocells, Value.oneCell']) hb12 rfl (hk undef _ (hJ.s3 hg12))
    | p + 4, hp => simp at hp
  intro us gs w6 hl hgs hJ
  obtain ⟨u0, u1, u2, u3, rfl⟩ := list_4 hl
  obtain ⟨g11, hg11⟩ := Option.isSome_iff_exists.1 (hgs 11 rfl)
  first | (rename_i hK; refine hK _ _ ?_; clear hK) | (rename_i hK hK_1; refine hK _ _ ?_; clear hK) | (rename_i hK hK_1 hK_2; refine hK _ _ ?_; clear hK) | (rename_i hK hK_1 hK_2 hK_3; refine hK _ _ ?_; clear hK)
  generalize hL : frameA _ _ _ _ _ _ = L
  obtain rfl : L = [(45, .pointer (some ⟨w.heap.size, 0, none⟩)), (46, .string d.title), (47, .pointer (some ⟨w.heap.size, 1, none⟩)), (48, .string d.lang), (49, .int .u8 b), (50, .bool drop), (51, u0), (52, .pointer (some ⟨w.heap.size, 5, none⟩)), (53, .slice hra rn hrc), (54, u1), (55, u2), (12, .pointer ((gs 11).map fun g => ⟨g, 0, none⟩))] := hL.symm.trans (by kernel_rfl)
  rw [hg11]
  clear hL hl
  simp only [Act.put, Option.map_some, List.foldl_cons, List.foldl_nil, List.setIfInBounds_toArray, List.set_cons_zero, List.set_cons_succ]
  obtain ⟨A1, c1, hu1⟩ := own_isSlice (hJ.own (by simp))
  obtain rfl : u1 = .slice A1 rn c1 := hu1
  have hg2 := (hJ.blk _ hg11).1
  have hb6 : Blk w6 g11 27 (ocells d b drop 0 (.slice A1 rn c1) (.slice none 0 0) (.slice none 0 0)) := by simpa using (hJ.blk _ hg11).2
  have hown6 := hJ.own (by simp)
  simp at hown6
  have hx6 := hJ.ext
  have hz2 := HZ2.out.lt
  have hw2 := HX2.out.size
  have HR6 : Hid (R47R d ⟨hra, rn, hrc, hea, n, hec, hca, cn, hcc⟩ b m drop g11 (.slice A1 rn c1) rn w (.slice none 0 0) 0 (.slice none 0 0) 0 (.slice none 0 0) w6) := by
    refine ⟨HX2.out.trans hx6, HB2.out.ext hx6, HZ2.out.ext hx6, hb6, own_le' hown6 hw2, ?_, ⟨rfl, .inl ⟨rfl, rfl⟩⟩⟩
    simpa [retEvs] using EvsOwn.nil w6 _
  have hB2 : w.heap.size + 2 ≤ g11 := by omega
  clear hJ hgs hg11 hb6 hown6 hx6 hg2 HB2 HZ2 HX2 hz2 hw2
  have hd6 := fun o => HR6.out.doc.cell o
  unfold Doc.cells at hd6
  go_wp2_with fail
  refine (HTa.out _).mono ?_
  rintro en w8 ⟨rfl, hx8⟩
  go_wp2_with fail
  refine (HTb.out _).mono ?_
  rintro en w9 ⟨rfl, hx9⟩
  have HR9 := Lib.hid (HR6.out.grow (hx8.trans hx9))
  have hd9 := fun o => HR9.out.doc.cell o
  unfold Doc.cells at hd9
  clear HR6 hd6 hx8 hx9
  go_wp2_with fail
  clear hd9
  go_loopw [64, 13] (fun i v wr => R47Loop d ⟨hra, rn, hrc, hea, n, hec, hca, cn, hcc⟩ b m drop g11 (.slice A1 rn c1) rn n w i v wr) (fun i _ _ => n - (intOf i).toNat)
  case atStart => exact ⟨0, _, Nat.zero_le _, rfl, HR9.out, by simp⟩
  case round =>
    obtain ⟨k, vE, hk, rfl, hr, hP⟩ := hrel
    have HRr := Lib.hid hr
    have HP := Lib.hid hP
    clear hr hP HR9
    by_cases hlt : k < n
    · obtain ⟨eb, eo, x, A', n', c', rfl, hxx, hxat, e0, e1, e2, e3, e4, e5, e6⟩ := (HAt.out.evs.ext HRr.out.ext).at_ev hlt
      obtain ⟨v1, v2, -, v4⟩ := evs_ok HK4.out k x hxx
      obtain ⟨v5, v6, v7⟩ := ev_ok v1
      have v8 := of_decide_eq_true v7
      clear v1 v2 v4 v7
      have HXx := Lib.hid hxx
      have HCn := Lib.hid (fun w' (hx : Ext wr w') => REClone_any x A' n' c' w' (hxat.ext hx))
      have hn24 := hxat.2.2
      clear hxx hxat
      unfold EClPost Ev.cells at HCn
      have HSe := Lib.hid (retErr_step (a := d.rate) (b := b) (m := m) HXx.out HP.out)
      obtain ⟨⟨⟨si, so⟩, er⟩, hsp⟩ : ∃ p, x.span d.rate b m = p := ⟨_, rfl⟩
      have HSp : Hid (∀ w, Calls Tryz.prog 120 #[.int .u8 d.rate, .int .u8 b, .agg #[.int .i64 x.inn, .int .i64 x.out], .int .u8 m] w fun e w' => e = .returned (.tuple #[.agg #[.int .i64 si, .int .i64 so], .int .i64 er]) ∧ Ext w w') := by
        intro w
        have := RSpan_any47 d.rate b x.inn x.out m w r0 r1 b0 b1
        have hsp' : spanT d.rate b x.inn x.out m = ((si, so), er) := hsp
        rw [hsp'] at this
        exact this
      have HBd : Hid (er = 0 → 0 ≤ si ∧ si < so ∧ so ≤ 5184000) := fun h0 => by
        have hsp' : spanT d.rate b x.inn x.out m = ((si, so), er) := hsp
        have := spanT_bd (a := d.rate) (b := b) (i := x.inn) (o := x.out) (m := m) (by rw [hsp']; exact h0)
        rw [hsp'] at this
        exact this.2.2
      have HSq := Lib.hid hsp
      rw [hsp] at HSe
      clear hsp
      dsimp only at HSe
      have HBx := Lib.hid (Blk.new wr 51 #[.int .i64 x.id, .int .i64 x.inn, .int .i64 x.out, .string x.region, .int .u8 x.kind, .string x.speaker, .slice A' n' c'])
      have hcx := fun o => HBx.out.cell o
      have hcd := fun o => (HRr.out.doc.alloc (.cells #[.int .i64 x.id, .int .i64 x.inn, .int .i64 x.out, .string x.region, .int .u8 x.kind, .string x.speaker, .slice A' n' c'] 51)).cell o
      unfold Doc.cells at hcd
      go_wp2_with fail
      clear hcx hcd e0 e1 e2 e3 e4 e5 e6
      refine (HSp.out _).mono ?_
      rintro en w7 ⟨rfl, hx7⟩
      have HX7 := Lib.hid (((Ext.refl wr).alloc (.cells #[.int .i64 x.id, .int .i64 x.inn, .int .i64 x.out, .string x.region, .int .u8 x.kind, .string x.speaker, .slice A' n' c'] 51)).trans hx7)
      have HX8 := Lib.hid ((Ext.refl w7).alloc (.cells #[.int .i64 si, .int .i64 so] 42))
      have HS8 := Lib.hid (Blk.new w7 42 #[.int .i64 si, .int .i64 so])
      have HBx8 := Lib.hid ((HBx.out.ext hx7).ext HX8.out)
      have HR8 := Lib.hid ((HRr.out.grow HX7.out).grow HX8.out)
      have hzr7 := (HBx.out.ext hx7).lt
      clear hx7 HBx
      by_cases he0 : er = 0
      case neg =>
        have hne : (er != 0) = true := by simpa using he0
        have HEr : Hid (d.retE b drop m = er) := by show _ = _; rw [R4.out HH.out HRt.out HM.out]; exact HSe.out.1 he0
        have HZ17 := Lib.hid HR8.out.zero
        have HX18 := Lib.hid HR8.out.ext
        have HE0 := Lib.hid he0
        clear he0
        go_wp2_with (refine wpList_storeB rfl 27 (.tmp 8) _ rfl (w.heap.size + 1) 27 _ _ (by exact rfl) (by exact rfl) (by exact HZ17.out) (by exact rfl) (by exact size_docI) (by simp [Value.oneCell']) ?_)
        exact (fun q => bodyPost_ret q.1 rfl q.2) (HEnd.out _ _ HX18.out HZ17.out (HEr.out) HE0.out _ (by exact rfl) (by exact rfl) (by exact rfl))
      subst he0
      obtain ⟨q1, q2, q3⟩ := HBd.out rfl
      have HP2 := Lib.hid (HSe.out.2 rfl)
      clear HBd HSe
      go_wp2_with (refine wpList_loadB rfl 51 (.tmp 17) rfl wr.heap.size 51 _ _ (by exact rfl) (by exact HBx8.out) Tryz.underlying51 rfl (by exact size_event) ?_)
      refine (HCn.out _ (HX7.out.trans HX8.out)).mono ?_
      rintro en w5 ⟨A5, c5, rfl, hnc5, hrf5, hx5⟩
      have HR5 := Lib.hid (HR8.out.grow hx5)
      have HRf := Lib.hid hrf5
      have HS5 := Lib.hid (HS8.out.ext hx5)
      have HBx5 := Lib.hid (HBx8.out.ext hx5)
      have hz7 := HS5.out.lt
      have hzr := HBx5.out.lt
      have hsz7 := HX7.out.size
      have hsz8 := HX8.out.size
      have hszw := HRr.out.ext.size
      have hz71 : (w7.alloc (.cells #[.int .i64 si, .int .i64 so] 42)).heap.size = w7.heap.size + 1 := by simp
      clear hrf5 hx5 HS8 HBx8 HR8
      go_upto_region 18 with fail
      obtain ⟨w18, hw18⟩ : ∃ w18, w18 = w5.alloc (.cells #[.int .i64 x.id, .int .i64 x.inn, .int .i64 x.out, .string x.region, .int .u8 x.kind, .string x.speaker, .slice A5 n' c5] 51) := ⟨_, rfl⟩
      rw [← hw18]
      have HE18 : Hid (Blk w18 w5.heap.size 51 #[.int .i64 x.id, .int .i64 x.inn, .int .i64 x.out, .string x.region, .int .u8 x.kind, .string x.speaker, .slice A5 n' c5]) := by show Blk _ _ _ _; rw [hw18]; exact Blk.new _ _ _
      have HX18 : Hid (Ext w5 w18) := by show Ext _ _; rw [hw18]; exact (Ext.refl w5).alloc _
      have HS18 := Lib.hid (HS5.out.ext HX18.out)
      have HBx18 := Lib.hid (HBx5.out.ext HX18.out)
      clear hw18
      refine wp_region_links [some 85, some 86, some 87, some 88, none, some 89, none] [[], [0], [], [0, 1], [3, 1, 0, 1], [0, 1, 2, 3, 4], [5, 2, 4, 0, 1, 2, 3, 4]] [4, 6] [.int .i64 (k : Int), .int .i64 ((k : Int) + 1), .agg #[.int .i64 si, .int .i64 so], .pointer (some ⟨w5.heap.size, 0, none⟩), undef, .pointer (some ⟨w5.heap.size, 1, none⟩), undef] (E2J w5.heap.size #[.int .i64 ((k : Int) + 1), .int .i64 x.inn, .int .i64 x.out, .string x.region, .int .u8 x.kind, .string x.speaker, .slice A5 n' c5] #[.int .i64 ((k : Int) + 1), .int .i64 si, .int .i64 so, .string x.region, .int .u8 x.kind, .string x.speaker, .slice A5 n' c5] w18) (by kernel_rfl) (by kernel_rfl) (by kernel_rfl) (by kernel_rfl) (by kernel_rfl) (by kernel_rfl) (by kernel_rfl) (by decide) ?_ ?_ ?_ ?_
      · exact E2J.start w18
      · intro i o ho hc a w' us K' hJ hF hlim hk
        match i, ho with
        | 0, ho =>
          simp only [List.getElem?_toArray, List.getElem?_cons_zero, List.getElem?_cons_succ, Option.some.injEq] at ho
          subst ho
          have e16 := hF.old 16 (.int .i64 (k : Int)) rfl rfl
          simp only [Act.eval] at e16
          clear hF hlim hJ
          go_simp
          exact hk
        | 1, ho =>
          simp only [List.getElem?_toArray, List.getElem?_cons_zero, List.getElem?_cons_succ, Option.some.injEq] at ho
          subst ho
          have e85 := hF.pure 0 85 (.int .i64 (k : Int)) rfl rfl rfl rfl
          simp only [Act.eval] at e85
          clear hF hlim hJ
          go_simp
          rw [wrap_i64 (by omega) (by omega)]
          exact hk
        | 2, ho =>
          simp only [List.getElem?_toArray, List.getElem?_cons_zero, List.getElem?_cons_succ, Option.some.injEq] at ho
          subst ho
          have e18 := hF.old 18 (.pointer (some ⟨w7.heap.size, 0, none⟩)) rfl rfl
          exact wp_loadBk 42 (.tmp 18) rfl _ 42 _ _ e18 (HS18.out.only hJ.only (by decide)) Tryz.underlying42 rfl (by exact size_span') hk
        | 3, ho =>
          simp only [List.getElem?_toArray, List.getElem?_cons_zero, List.getElem?_cons_succ, Option.some.injEq] at ho
          subst ho
          have e20 := hF.old 20 (.pointer (some ⟨w5.heap.size, 0, none⟩)) rfl rfl
          simp only [Act.eval] at e20
          clear hF hlim hJ
          go_simp
          exact hk
        | 4, ho => simp at hc
        | 5, ho =>
          simp only [List.getElem?_toArray, List.getElem?_cons_zero, List.getElem?_cons_succ, Option.some.injEq] at ho
          subst ho
          have e20 := hF.old 20 (.pointer (some ⟨w5.heap.size, 0, none⟩)) rfl rfl
          simp only [Act.eval] at e20
          clear hF hlim hJ
          go_simp
          exact hk
        | 6, ho => simp at hc
        | i + 7, ho => simp at ho
      · intro p c' o hp ho a w' us K' hl hJ hF hk
        match p, hp with
        | 0, hp =>
          obtain rfl : 4 = c' := by simpa using hp
          simp only [List.getElem?_toArray, List.getElem?_cons_zero, List.getElem?_cons_succ, Option.some.injEq] at ho
          subst ho
          obtain rfl : us = [] := List.eq_nil_of_length_eq_zero hl
          have e88 := hF.pure 3 88 (.pointer (some ⟨w5.heap.size, 0, none⟩)) rfl rfl rfl rfl
          have e86 := hF.pure 1 86 (.int .i64 ((k : Int) + 1)) rfl rfl rfl rfl
          have hb8 := HE18.out.ext (hJ.nil rfl)
          have hcl := hb8.cell 0
          have hfr := hb8.frozen 0
          have hset := setCell_put hb8 0 (.int .i64 ((k : Int) + 1))
          simp at hcl hset
          have HK := Lib.hid (hk undef _ (hJ.first HE18.out))
          simp only [Act.eval] at e88 e86
          clear hk hF hJ hb8
          go_simp
          exact HK.out
        | 1, hp =>
          obtain rfl : 6 = c' := by simpa using hp
          simp only [List.getElem?_toArray, List.getElem?_cons_zero, List.getElem?_cons_succ, Option.some.injEq] at ho
          subst ho
          obtain ⟨u0, rfl⟩ := list_1 hl
          obtain ⟨w9, hx9, rfl⟩ := hJ.one u0 rfl
          have e89 := hF.pure 5 89 (.pointer (some ⟨w5.heap.size, 1, none⟩)) rfl rfl rfl rfl
          have e87 := hF.pure 2 87 (.agg #[.int .i64 si, .int .i64 so]) rfl rfl rfl rfl
          have hb8 := (HE18.out.ext hx9).put #[.int .i64 ((k : Int) + 1), .int .i64 x.inn, .int .i64 x.out, .string x.region, .int .u8 x.kind, .string x.speaker, .slice A5 n' c5]
          refine wp_store_mid 42 (.tmp 89) (.tmp 87) rfl w5.heap.size 1 #[.int .i64 si, .int .i64 so] e89 e87 (fun j hj => ⟨?_, hb8.frozen _⟩) (by exact size_span') (by simp [Value.oneCell']) ?_
          · have hj2 : j < 2 := hj
            have hjx : j = 0 ∨ j = 1 := by omega
            rcases hjx with rfl | rfl
            · rw [hb8.cell]; rfl
            · rw [hb8.cell]; rfl
          · have hw : World.setCells (putB w9 w5.heap.size 51 #[.int .i64 ((k : Int) + 1), .int .i64 x.inn, .int .i64 x.out, .string x.region, .int .u8 x.kind, .string x.speaker, .slice A5 n' c5]) w5.heap.size 1 [.int .i64 si, .int .i64 so] = putB w9 w5.heap.size 51 #[.int .i64 ((k : Int) + 1), .int .i64 si, .int .i64 so, .string x.region, .int .u8 x.kind, .string x.speaker, .slice A5 n' c5] := by
              have h1 := setCell_put hb8 1 (.int .i64 si)
              have h2 := setCell_put (hb8.put #[.int .i64 ((k : Int) + 1), .int .i64 si, .int .i64 x.out, .string x.region, .int .u8 x.kind, .string x.speaker, .slice A5 n' c5]) 2 (.int .i64 so)
              simp [putB_putB] at h1 h2
              simp only [World.setCells]
              rw [h1, h2]
            have HK := hk undef _ (hJ.second HE18.out)
            rw [putB_putB, ← hw] at HK
            exact HK
        | p + 2, hp => simp at hp
      intro us w19 hl hJ
      obtain ⟨u0, u1, rfl⟩ := list_2 hl
      first | (rename_i hK; refine hK _ _ ?_; clear hK) | (rename_i hK hK_1; refine hK _ _ ?_; clear hK) | (rename_i hK hK_1 hK_2; refine hK _ _ ?_; clear hK) | (rename_i hK hK_1 hK_2 hK_3; refine hK _ _ ?_; clear hK)
      generalize hL : frameL _ _ _ _ = L
      obtain rfl : L = [(85, .int .i64 (k : Int)), (86, .int .i64 ((k : Int) + 1)), (87, .agg #[.int .i64 si, .int .i64 so]), (88, .pointer (some ⟨w5.heap.size, 0, none⟩)), (89, .pointer (some ⟨w5.heap.size, 1, none⟩))] := hL.symm.trans (by kernel_rfl)
      clear hL hl
      simp only [Act.put, List.foldl_cons, List.foldl_nil, List.setIfInBounds_toArray, List.set_cons_zero, List.set_cons_succ]
      obtain ⟨w20, hx20, rfl⟩ := hJ.two u0 u1 rfl
      clear hJ
      have HR20 : Hid (R47R d ⟨hra, rn, hrc, some ⟨eb, eo, none⟩, n, hec, hca, cn, hcc⟩ b m drop g11 (.slice A1 rn c1) rn w vE k vE k u13 (putB w20 w5.heap.size 51 #[.int .i64 ((k : Int) + 1), .int .i64 si, .int .i64 so, .string x.region, .int .u8 x.kind, .string x.speaker, .slice A5 n' c5])) := HR5.out.putY (HX18.out.trans hx20) (HE18.out.ext hx20) (Nat.le_refl _)
      obtain ⟨w21, hw21⟩ : ∃ w21, w21 = putB w20 w5.heap.size 51 #[.int .i64 ((k : Int) + 1), .int .i64 si, .int .i64 so, .string x.region, .int .u8 x.kind, .string x.speaker, .slice A5 n' c5] := ⟨_, rfl⟩
      rw [← hw21] at HR20 ⊢
      have HE21 : Hid (Blk w21 w5.heap.size 51 #[.int .i64 ((k : Int) + 1), .int .i64 si, .int .i64 so, .string x.region, .int .u8 x.kind, .string x.speaker, .slice A5 n' c5]) := by show Blk _ _ _ _; rw [hw21]; exact (HE18.out.ext hx20).put _
      have HS21 : Hid (Blk w21 w7.heap.size 42 #[.int .i64 si, .int .i64 so]) := by show Blk _ _ _ _; rw [hw21]; exact (HS18.out.ext hx20).kb (KB.put (HE18.out.ext hx20) (by decide))
      have HBx21 : Hid (Blk w21 wr.heap.size 51 #[.int .i64 x.id, .int .i64 x.inn, .int .i64 x.out, .string x.region, .int .u8 x.kind, .string x.speaker, .slice A' n' c']) := by show Blk _ _ _ _; rw [hw21]; exact (HBx18.out.ext hx20).put_other (by omega) _
      have HG21 : Hid (EGood w21 w.heap.size (EH.of (retEv d.rate b m k x) A5 n' c5) (retEv d.rate b m k x)) := by
        show EGood _ _ _ _
        rw [hw21]
        have h5 : EGood w5 w.heap.size (EH.of (retEv d.rate b m k x) A5 n' c5) (retEv d.rate b m k x) := ⟨rfl, hnc5, hn24, HRf.out.le (by omega)⟩
        exact (h5.ext (HX18.out.trans hx20)).kb (KB.put (HE18.out.ext hx20) (by decide)) (KB.put (HE18.out.ext hx20) (by decide))
      have hre : (retEv d.rate b m k x).cells A5 n' c5 = #[.int .i64 ((k : Int) + 1), .int .i64 si, .int .i64 so, .string x.region, .int .u8 x.kind, .string x.speaker, .slice A5 n' c5] := by unfold retEv Ev.cells; rw [HSq.out]
      have hrd : (retDri d.rate b m k x).vals = [.int .i64 ((k : Int) + 1), .int .i64 (si * rTicks b - x.inn * rTicks d.rate), .int .i64 (so * rTicks b - x.out * rTicks d.rate)] := by unfold retDri Dri.vals; rw [HSq.out]
      have HRe := Lib.hid hre
      have HRd := Lib.hid hrd
      obtain ⟨hs, hown⟩ := HR20.out.evs.heads
      have HOw := Lib.hid hown
      have hvlt : ∀ q, vE.ownBlock = some q → q < wr.heap.size := by
        obtain ⟨hs0, hown0⟩ := HRr.out.evs.heads
        exact fun q hq => (hown0.lt q hq).2
      have HVl := Lib.hid hvlt
      have hsz21 := HR20.out.ext.size
      clear hw21 hx20 hre hrd hown hvlt HE18 HS18 HBx18 HX18 HS5 HBx5 HR5 HX7 HX8 HCn HRf
      have ho21 := fun o => (HR20.out.out.alloc (.cells #[.int .i64 ((k : Int) + 1), .int .i64 si, .int .i64 so, .string x.region, .int .u8 x.kind, .string x.speaker, .slice A5 n' c5] 51)).cell o
      have ho21' := fun o => HR20.out.out.cell o
      unfold ocells at ho21 ho21'
      go_upto_region 20 with (first | (refine wpList_loadB rfl 51 (.tmp 20) rfl w5.heap.size 51 _ _ (by exact rfl) (by exact HE21.out) Tryz.underlying51 rfl (by exact size_event) ?_) | (at_builtin; refine wpList_append1 rfl (.tmp 91) (.tmp 93) 24 rfl info_evtI Tryz.underlying24 rfl (by decide) (by exact HOw.out.alloc _) (by exact rfl) w21.heap.size _ (by exact rfl) (by exact Blk.new w21 _ _) (by exact rfl) (by simp [Value.oneCell']) (by omega) (by simp [maxLen]; omega) (by simp; omega) ?_; intro v' w22 hown' hgr; obtain ⟨A2, c2, rfl⟩ := own_isSlice hown'; have hpush := (HR20.out.grow ((Ext.refl w21).alloc (.cells #[.int .i64 ((k : Int) + 1), .int .i64 si, .int .i64 so, .string x.region, .int .u8 x.kind, .string x.speaker, .slice A5 n' c5] 51))).push HXx.out (HOw.out.alloc _) (HG21.out.ext ((Ext.refl w21).alloc _)) hgr (by rw [HRe.out]; exact hown'); have HR22 := Lib.hid hpush; have HE22 := Lib.hid ((HE21.out.alloc (.cells #[.int .i64 ((k : Int) + 1), .int .i64 si, .int .i64 so, .string x.region, .int .u8 x.kind, .string x.speaker, .slice A5 n' c5] 51)).away hgr (by intro e; have := HVl.out _ e.symm; omega)); have HBx22 := Lib.hid ((HBx21.out.alloc (.cells #[.int .i64 ((k : Int) + 1), .int .i64 si, .int .i64 so, .string x.region, .int .u8 x.kind, .string x.speaker, .slice A5 n' c5] 51)).away hgr (by intro e; have := HVl.out _ e.symm; omega)); have HS22 := Lib.hid ((HS21.out.alloc (.cells #[.int .i64 ((k : Int) + 1), .int .i64 si, .int .i64 so, .string x.region, .int .u8 x.kind, .string x.speaker, .slice A5 n' c5] 51)).kb (KB.grown hgr (own_typed (HOw.out.alloc _)) (by decide))); have hs22 := setCell_put HR22.out.out 6 (.slice A2 (k + 1) c2); have hc22 := HR22.out.out.cell 6; have hf22 := HR22.out.out.frozen 6; unfold ocells at hs22 hc22; simp at hs22 hc22; clear hpush hown' hgr))
      have HR23 := Lib.hid (HR22.out.store (v' := .slice A2 (k + 1) c2) hB2)
      have HE23 := Lib.hid (HE22.out.put_other (g' := g11) (t' := 27) (by intro e; subst e; exact absurd (HE22.out.symm.trans HR22.out.out) (by simp)) (ocells d b drop 0 (.slice A1 rn c1) (.slice A2 (k + 1) c2) (.slice none 0 0)))
      have HBx23 := Lib.hid (HBx22.out.put_other (g' := g11) (t' := 27) (by intro e; subst e; exact absurd (HBx22.out.symm.trans HR22.out.out) (by simp)) (ocells d b drop 0 (.slice A1 rn c1) (.slice A2 (k + 1) c2) (.slice none 0 0)))
      have HS23 := Lib.hid (HS22.out.kb (KB.put (cs' := ocells d b drop 0 (.slice A1 rn c1) (.slice A2 (k + 1) c2) (.slice none 0 0)) HR22.out.out (by decide)))
      unfold ocells at HE23 HBx23 HS23
      clear hs22 hc22 hf22 ho21 ho21' HR22 HE22 HBx22 HS22 HE21 HBx21 HS21 HR20 HG21 HOw
      have hce := fun o => HE23.out.cell o
      have hcx := fun o => HBx23.out.cell o
      have hcs := fun o => HS23.out.cell o
      obtain ⟨ta0, ta1⟩ := rTicks_bd d.rate
      obtain ⟨tb0, tb1⟩ := rTicks_bd b
      have ma := mul_bd (x := si) (t := rTicks b) q1 (by omega) tb0 tb1
      have mb := mul_bd (x := so) (t := rTicks b) (by omega) q3 tb0 tb1
      have mc := mul_bd (x := x.inn) (t := rTicks d.rate) (by omega) (by omega) ta0 ta1
      have md := mul_bd (x := x.out) (t := rTicks d.rate) (by omega) (by omega) ta0 ta1
      have wr1 : IntKind.i64.wrap (si * rTicks b) = si * rTicks b := wrap_i64 (by omega) (by omega)
      have wr2 : IntKind.i64.wrap (so * rTicks b) = so * rTicks b := wrap_i64 (by omega) (by omega)
      have wr3 : IntKind.i64.wrap (x.inn * rTicks d.rate) = x.inn * rTicks d.rate := wrap_i64 (by omega) (by omega)
      have wr4 : IntKind.i64.wrap (x.out * rTicks d.rate) = x.out * rTicks d.rate := wrap_i64 (by omega) (by omega)
      have wr5 : IntKind.i64.wrap (si * rTicks b - x.inn * rTicks d.rate) = si * rTicks b - x.inn * rTicks d.rate := wrap_i64 (by omega) (by omega)
      have wr6 : IntKind.i64.wrap (so * rTicks b - x.out * rTicks d.rate) = so * rTicks b - x.out * rTicks d.rate := wrap_i64 (by omega) (by omega)
      unfold ocells at HR23
      obtain ⟨w23, hw23⟩ : ∃ w23, w23 = putB w22 g11 27 #[.string d.title, .string d.lang, .int .u8 b, .bool drop, .int .i64 0, .slice A1 rn c1, .slice A2 (k + 1) c2, .slice none 0 0] := ⟨_, rfl⟩
      rw [← hw23] at HR23 HE23 HBx23 HS23 hce hcx hcs ⊢
      have hsz23 := HR23.out.ext.size
      clear hw23 HE23 HBx23 HS23 ma mb mc md
      go_upto_region 21 with (at_builtin; refine wpList_append1 rfl (.tmp 96) (.tmp 120) 74 rfl info_dri Tryz.underlying74 rfl (by decide) (by exact HR23.out.dris.alloc _) (by exact rfl) w23.heap.size _ (by exact rfl) (by exact Blk.new w23 _ _) (by exact rfl) (by simp [Value.oneCell']) (by omega) (by simp [maxLen]; omega) (by simp; omega) ?_; intro v' w24 hown' hgr; have HR24 := Lib.hid ((HR23.out.grow ((Ext.refl w23).alloc (.cells #[.int .i64 ((k : Int) + 1), .int .i64 (si * rTicks b - x.inn * rTicks d.rate), .int .i64 (so * rTicks b - x.out * rTicks d.rate)] 135))).pushD HXx.out hgr (by rw [HRd.out]; exact hown')); clear hown' hgr)
      clear wr1 wr2 wr3 wr4 wr5 wr6 hce hcx hcs
      go_wp2_with fail
      exact ⟨⟨k + 1, _, by omega, by go_num, HR24.out, HP2.out⟩, by simp [intOf]; omega⟩
    · have hkn : k = n := by omega
      subst hkn
      have hz0 : retErr d.rate b m d.evs = 0 := by rw [HP.out, List.drop_eq_nil_of_le (by have := HEl.out; omega)]; rfl
      have HE0 : Hid (d.retE b drop m = 0) := by show _ = _; rw [R4.out HH.out HRt.out HM.out, hz0]
      have hev := HRr.out.evs
      have hdr := HRr.out.dris
      have htk : d.evs.take k = d.evs := List.take_of_length_le (by have := HEl.out; omega)
      have hkl : d.evs.length = k := HEl.out
      rw [htk] at hev hdr
      obtain ⟨A6, c6, hv, hc6, -, -⟩ := hev.at_
      subst hv
      have hqs := setCell_put HRr.out.out 4 (.int .i64 (k : Int))
      have hq := fun o => HRr.out.out.cell o
      have hqf := fun o => HRr.out.out.frozen o
      unfold ocells at hqs hq
      simp at hqs
      obtain ⟨wd, hwd⟩ : ∃ wd, wd = putB wr g11 27 #[.string d.title, .string d.lang, .int .u8 b, .bool drop, .int .i64 (k : Int), .slice A1 rn c1, .slice A6 k c6, .slice none 0 0] := ⟨_, rfl⟩
      rw [← hwd] at hqs
      have HC0 : Hid (R47C d ⟨hra, rn, hrc, hea, k, hec, hca, cn, hcc⟩ b m drop g11 (.slice A1 rn c1) rn (.slice A6 k c6) u13 w ((d.evs.length : Int) + liveN (d.coms.take 0)) (.slice none 0 0) 0 (.slice none 0 0) wd) := by
        show R47C _ _ _ _ _ _ _ _ _ _ _ _ _ _ _ _
        have e1 : ocells d b drop ((d.evs.length : Int) + liveN (d.coms.take 0)) (.slice A1 rn c1) (.slice A6 k c6) (.slice none 0 0) = #[.string d.title, .string d.lang, .int .u8 b, .bool drop, .int .i64 (k : Int), .slice A1 rn c1, .slice A6 k c6, .slice none 0 0] := by rw [hkl]; simp [ocells, liveN]
        have o := HRr.out.out
        have hsz := HRr.out.ext.size
        rw [hwd]
        refine ⟨HRr.out.ext.put (by omega) _ _, HRr.out.doc.put_other (by omega) _, HRr.out.zero.put_other (by omega) _, by rw [e1]; exact o.put _, own_kb HRr.out.regs (KB.put o (by decide)), by rw [hkl]; exact hev.kb (KB.put o (by decide)) (KB.put o (by decide)) (KB.put o (by decide)), by rw [hkl]; exact own_kb hdr (KB.put o (by decide)), ⟨rfl, .inl ⟨rfl, rfl⟩⟩⟩
      have hd0 := fun o => HC0.out.doc.cell o
      unfold Doc.cells at hd0
      clear HRr HP hz0 htk hev hdr hwd HTa HTb HV HD
      have HKk := Lib.hid hkl
      clear hkl
      go_wp2_with fail
      clear hq hqf hqs hd0
      go_loopw [130] (fun i wr => R47CLoop d ⟨hra, rn, hrc, hea, k, hec, hca, cn, hcc⟩ b m drop g11 (.slice A1 rn c1) rn (.slice A6 k c6) u13 w cn i wr) (fun i _ => cn - (intOf i).toNat)
      case atStart => exact ⟨0, _, Nat.zero_le _, rfl, HC0.out⟩
      case round =>
        obtain ⟨j, vC, hj, rfl, hr⟩ := hrel
        obtain ⟨Av, cv, rfl⟩ := own_isSlice hr.coms
        have HRc := Lib.hid hr
        clear hr HC0
        have hszw := HRc.out.ext.size
        have hgw := HRc.out.out.lt
        by_cases hlj : j < cn
        · obtain ⟨bb, off, c, rfl, hcc', e0, e1, e2, e3, e4, e5, e6, e7⟩ := (HAt.out.coms.ext HRc.out.ext).at8 hlj
          have HCc := Lib.hid hcc'
          have hlv : liveN (d.coms.take j) ≤ 1000000000000 := by have h1 := liveN_le (d.coms.take j); have h2 := HKl.out; rw [List.length_take] at h1; omega
          have hkl' : d.evs.length ≤ 1000000 := by have := HKk.out; omega
          cases hlo : c.lost
          case true =>
            have HLo := Lib.hid hlo
            rw [hlo] at e7
            have HB28 := Lib.hid (Blk.new wr 72 #[.int .i64 c.id, .int .i64 c.ev, .int .i64 c.fr, .int .i64 c.til, .string c.author, .string c.text, .bool c.done, .bool true])
            have hcom := fun o => HB28.out.cell o
            have hln : liveN (d.coms.take (j + 1)) = liveN (d.coms.take j) := by rw [liveN_take hcc', if_pos hlo]; rfl
            have HLn := Lib.hid hln
            clear hlo hcc' hln
            go_wp2_with fail
            exact ⟨⟨j + 1, _, by omega, by go_num, by rw [HLn.out]; exact (HRc.out.grow ((Ext.refl wr).alloc (.cells #[.int .i64 c.id, .int .i64 c.ev, .int .i64 c.fr, .int .i64 c.til, .string c.author, .string c.text, .bool c.done, .bool true] 72))).skip HCc.out HLo.out⟩, by simp [intOf]; omega⟩
          case false =>
            have HLo := Lib.hid hlo
            rw [hlo] at e7
            have hln : (d.evs.length : Int) + liveN (d.coms.take (j + 1)) = ((d.evs.length : Int) + liveN (d.coms.take j) + 1) := by rw [liveN_take hcc', hlo]; simp; omega
            have HLn := Lib.hid hln
            have HB28 := Lib.hid (Blk.new wr 72 #[.int .i64 c.id, .int .i64 c.ev, .int .i64 c.fr, .int .i64 c.til, .string c.author, .string c.text, .bool c.done, .bool false])
            have HR28 := Lib.hid (HRc.out.grow ((Ext.refl wr).alloc (.cells #[.int .i64 c.id, .int .i64 c.ev, .int .i64 c.fr, .int .i64 c.til, .string c.author, .string c.text, .bool c.done, .bool false] 72)))
            have HR29 := Lib.hid (HR28.out.putOut (last' := ((d.evs.length : Int) + liveN (d.coms.take j) + 1)) (vO' := .slice Av (liveN (d.coms.take j)) cv) hB2)
            have hcom := fun o => HB28.out.cell o
            have hq28 := fun o => HR28.out.out.cell o
            have hf28 := fun o => HR28.out.out.frozen o
            have hs28 := setCell_put HR28.out.out 4 (.int .i64 ((d.evs.length : Int) + liveN (d.coms.take j) + 1))
            unfold ocells at hq28 hs28 HR29
            simp at hs28
            have HD29 := Lib.hid HR29.out.doc
            have HC29 := Lib.hid (HB28.out.put_other (g' := g11) (t' := 27) (by omega) #[.string d.title, .string d.lang, .int .u8 b, .bool drop, .int .i64 ((d.evs.length : Int) + liveN (d.coms.take j) + 1), .slice A1 rn c1, .slice A6 k c6, .slice Av (liveN (d.coms.take j)) cv])
            have hc29 := fun o => HC29.out.cell o
            have hw9 : IntKind.i64.wrap ((d.evs.length : Int) + liveN (d.coms.take j) + 1) = ((d.evs.length : Int) + liveN (d.coms.take j) + 1) := wrap_i64 (by omega) (by omega)
            unfold Doc.cells at HD29
            clear hlo hcc' hln
            go_wp2_with (refine wpList_loadB rfl 27 (.tmp 4) rfl w.heap.size 27 _ _ (by exact rfl) (by exact HD29.out) Tryz.underlying27 rfl (by exact size_docI) ?_)
            clear hcom hq28 hf28 hs28 hc29 hw9 e0 e1 e2 e3 e4 e5 e6 e7
            refine (HNum.out c.ev _ HR29.out.ext).mono ?_
            rintro en w30 ⟨rfl, hx30⟩
            rw [num_newId]
            have HR30 := Lib.hid (HR29.out.grow hx30)
            have HC30 := Lib.hid (HC29.out.ext hx30)
            have hne : (Value.slice Av (liveN (d.coms.take j)) cv).ownBlock = none ∨ (Value.slice Av (liveN (d.coms.take j)) cv).ownBlock ≠ some wr.heap.size := by
              cases hob : (Value.slice Av (liveN (d.coms.take j)) cv).ownBlock with
              | none => exact .inl rfl
              | some q => exact .inr fun e => by have h1 := (HRc.out.coms.lt q hob).2; have := Option.some.inj e; omega
            have HR31 := Lib.hid (HR30.out.putC (cs' := #[.int .i64 c.id, .int .i64 (newId d.evs c.ev), .int .i64 c.fr, .int .i64 c.til, .string c.author, .string c.text, .bool c.done, .bool false]) HC30.out (by omega) hne)
            have HR32 := Lib.hid (HR30.out.putC (cs' := #[.int .i64 ((d.evs.length : Int) + liveN (d.coms.take j) + 1), .int .i64 (newId d.evs c.ev), .int .i64 c.fr, .int .i64 c.til, .string c.author, .string c.text, .bool c.done, .bool false]) HC30.out (by omega) hne)
            have HC32 := Lib.hid (HC30.out.put #[.int .i64 ((d.evs.length : Int) + liveN (d.coms.take j) + 1), .int .i64 (newId d.evs c.ev), .int .i64 c.fr, .int .i64 c.til, .string c.author, .string c.text, .bool c.done, .bool false])
            have hs30 := setCell_put HC30.out 1 (.int .i64 (newId d.evs c.ev))
            have hs31 := setCell_put (HC30.out.put #[.int .i64 c.id, .int .i64 (newId d.evs c.ev), .int .i64 c.fr, .int .i64 c.til, .string c.author, .string c.text, .bool c.done, .bool false]) 0 (.int .i64 ((d.evs.length : Int) + liveN (d.coms.take j) + 1))
            have hc30 := fun o => HC30.out.cell o
            have hf30 := fun o => HC30.out.frozen o
            have hc31 := fun o => (HC30.out.put #[.int .i64 c.id, .int .i64 (newId d.evs c.ev), .int .i64 c.fr, .int .i64 c.til, .string c.author, .string c.text, .bool c.done, .bool false]).cell o
            have hf31 := fun o => (HC30.out.put #[.int .i64 c.id, .int .i64 (newId d.evs c.ev), .int .i64 c.fr, .int .i64 c.til, .string c.author, .string c.text, .bool c.done, .bool false]).frozen o
            have ho31 := fun o => HR31.out.out.cell o
            unfold ocells at ho31
            simp [putB_putB] at hs30 hs31
            clear hx30 HR28 HR29 HB28 HC29 HD29 hne
            go_upto_region 30 with (fail)
            clear hs30 hs31 hc30 hf30 hc31 hf31 ho31 HR31 HR30 HC30
            obtain ⟨w32, hw32⟩ : ∃ w32, w32 = putB w30 wr.heap.size 72 #[.int .i64 ((d.evs.length : Int) + liveN (d.coms.take j) + 1), .int .i64 (newId d.evs c.ev), .int .i64 c.fr, .int .i64 c.til, .string c.author, .string c.text, .bool c.done, .bool false] := ⟨_, rfl⟩
            rw [← hw32] at HR32 HC32 ⊢
            clear hw32
            have hsz32 := HR32.out.ext.size
            have ho32 := fun o => HR32.out.out.cell o
            have ho32' := fun o => (HR32.out.out.alloc (.cells #[.int .i64 ((d.evs.length : Int) + liveN (d.coms.take j) + 1), .int .i64 (newId d.evs c.ev), .int .i64 c.fr, .int .i64 c.til, .string c.author, .string c.text, .bool c.done, .bool false] 72)).cell o
            unfold ocells at ho32 ho32'
            go_wp2_with (first | (refine wpList_loadB rfl 72 (.tmp 22) rfl wr.heap.size 72 _ _ (by exact rfl) (by exact HC32.out) Tryz.underlying72 rfl (by exact size_com) ?_) | (at_builtin; refine wpList_append1 rfl (.tmp 149) (.tmp 151) 25 rfl info_comI Tryz.underlying25 rfl (by decide) (by exact HR32.out.coms.alloc _) (by exact rfl) w32.heap.size _ (by exact rfl) (by exact Blk.new w32 _ _) (by exact rfl) (by simp [Value.oneCell']) (by omega) (by simp [maxLen]; omega) (by simp; omega) ?_; intro v' w33 hown' hgr; obtain ⟨A3, c3, rfl⟩ := own_isSlice hown'; have hpush := (HR32.out.grow ((Ext.refl w32).alloc (.cells #[.int .i64 ((d.evs.length : Int) + liveN (d.coms.take j) + 1), .int .i64 (newId d.evs c.ev), .int .i64 c.fr, .int .i64 c.til, .string c.author, .string c.text, .bool c.done, .bool false] 72))).push HCc.out HLo.out hgr (by rw [HLo.out]; exact hown'); have HR33 := Lib.hid hpush; have hs33 := setCell_put HR33.out.out 7 (.slice A3 (liveN (d.coms.take j) + 1) c3); have hc33 := HR33.out.out.cell 7; have hf33 := HR33.out.out.frozen 7; unfold ocells at hs33 hc33; simp at hs33 hc33; clear hpush hown' hgr))
            have hfin := HR33.out.putOut (last' := ((d.evs.length : Int) + liveN (d.coms.take j) + 1)) (vO' := .slice A3 (liveN (d.coms.take j) + 1) c3) hB2
            unfold ocells at hfin
            exact ⟨⟨j + 1, _, by omega, by go_num, by rw [HLn.out]; exact hfin⟩, by simp [intOf]; omega⟩
        · have hjn : j = cn := by omega
          have htj : d.coms.take j = d.coms := List.take_of_length_le (by have := HKl.out; omega)
          obtain ⟨a1, a2, a3, a4, a5, a6, a8, a9⟩ := HRc.out
          rw [htj] at a4 a9
          rw [HKk.out] at a6
          unfold ocells at a4
          unfold docZero at a3
          have HA1 := Lib.hid a1
          have HA3 := Lib.hid a3
          have HA4 := Lib.hid a4
          have HA5 := Lib.hid a5
          have HA6 := Lib.hid a6
          have HA8 := Lib.hid a8
          have HA9 := Lib.hid a9
          clear a1 a2 a3 a4 a5 a6 a8 a9 htj
          go_wp2_with (first | (refine wpList_loadB rfl 27 (.tmp 12) rfl g11 27 _ _ (by exact rfl) (by exact HA4.out) Tryz.underlying27 rfl (by exact size_docI) ?_) | (refine wpList_storeB rfl 27 (.tmp 8) _ rfl (w.heap.size + 1) 27 _ _ (by exact rfl) (by exact rfl) (by exact HA3.out) (by exact rfl) (by exact size_docI) (by simp [Value.oneCell']) ?_))
          obtain ⟨A8, c8, hv8, hc8, hm8, hsl8, -⟩ := own_sl (f := Dri.vals) (size := 3) (fun _ => rfl) (by unfold retDris; simp) HA8.out
          subst hv8
          have hD : d.retD b drop m = d.ret b drop m := by unfold Doc.retD; rw [if_pos HE0.out]
          have hL : d.retL b drop m = retDris d.rate b m d.evs := by unfold Doc.retL; rw [if_pos HE0.out]
          have hcs : (d.ret b drop m).cells ⟨A1, rn, c1, A6, k, c6, Av, liveN d.coms, cv⟩ = #[.string d.title, .string d.lang, .int .u8 b, .bool drop, .int .i64 ((d.evs.length : Int) + liveN d.coms), .slice A1 rn c1, .slice A6 k c6, .slice Av (liveN d.coms) cv] := rfl
          refine bodyPost_ret (v := .tuple #[.agg ((d.retD b drop m).cells ⟨A1, rn, c1, A6, k, c6, Av, liveN d.coms, cv⟩), .slice A8 d.evs.length c8, .int .i64 (d.retE b drop m)]) ?_ rfl ⟨⟨A1, rn, c1, A6, k, c6, Av, liveN d.coms, cv⟩, A8, d.evs.length, c8, rfl, ?_, ?_, hc8, ?_⟩
          · rw [hD, HE0.out, hcs]
            exact results_B_tmp2 (P := Tryz.prog) Tryz.results56 (g := w.heap.size + 1) rfl (by exact HA3.out.put _) Tryz.underlying27 rfl size_docI
          · rw [hD]
            refine DocAt.mk (Sl.change (own_slice (f := Reg.vals) (fun _ => rfl) ?_ (own_kb HA5.out (KB.put HA3.out (by decide)))).2.2 fun _ _ _ => regC_cells) (HA6.out.kb (KB.put HA3.out (by decide)) (KB.put HA3.out (by decide)) (KB.put HA3.out (by decide))).evs (own_slice (f := Com.vals) (fun _ => rfl) (retComs_len _ _ _) (own_kb HA9.out (KB.put HA3.out (by decide)))).2.2
            exact HRl.out
          · rw [hL]
            exact (own_slice (f := Dri.vals) (fun _ => rfl) (by unfold retDris; simp) (own_kb HA8.out (KB.put HA3.out (by decide)))).2.2
          · exact HA1.out.put (by omega) _ _
end Go.Proofs.YtbfaghgjbipilaaGreatDoor
