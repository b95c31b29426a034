/- Laid together: The walk of document.Shift. -/
import Derived.Test.YtagfedbdakmlgaaGreatDoorMo21
import Derived.Test.YtagfedbdakmlgaaGreatDoorMo17
import Derived.Test.YtagfedbdakmlgaaGreatDoorMo14

/-! ShiftD -/
namespace Go.Proofs.YtagfedbdakmlgaaGreatDoor
set_option linter.unusedVariables false
set_option linter.unusedSimpArgs false
open Go.RowKit
/-- two stores of cells, one after the other, in a drawn region -/
structure ShJ (p1 : Addr) (v1 : Value) (p2 : Addr) (v2 : Value) (W : World) (us : List Value) (w' : World) : Prop where
  nil : us = [] → Ext W w'
  one : ∀ u, us = [u] → ∃ w5, Ext W w5 ∧ w' = w5.setCell p1 v1
  two : ∀ u u1, us = [u, u1] → ∃ w5, Ext W w5 ∧ w' = (w5.setCell p1 v1).setCell p2 v2
section
variable {p1 p2 : Addr} {v1 v2 : Value} {W w' : World}
theorem ShJ.start (W : World) : ShJ p1 v1 p2 v2 W [] W.drew := ⟨fun _ => (Ext.refl W).drew, fun u h => by simp at h, fun u u1 h => by simp at h⟩
theorem ShJ.sto1 {u : Value} (h : ShJ p1 v1 p2 v2 W [] w') : ShJ p1 v1 p2 v2 W ([] ++ [u]) (w'.setCell p1 v1) := ⟨fun h => by simp at h, fun u hu => ⟨w', h.nil rfl, rfl⟩, fun u u1 h => by simp at h⟩
theorem ShJ.sto2 {w5 : World} {u u1 : Value} (_ : ShJ p1 v1 p2 v2 W [u] (w5.setCell p1 v1)) (hx : Ext W w5) : ShJ p1 v1 p2 v2 W ([u] ++ [u1]) ((w5.setCell p1 v1).setCell p2 v2) := ⟨fun h => by simp at h, fun u hu => by simp at hu, fun u u1 hu => ⟨w5, hx, rfl⟩⟩
end
def ShLoop (d : Doc) (fr sh : Int) (w : World) (h : DocH) (L : Nat) (cs : Array Value) (v : Value) (wr : World) : Prop :=
  ∃ i : Nat, i ≤ h.en ∧ v = .int .i64 i ∧ (d.evs.take i).any (Ev.mvBad fr sh) = false ∧ Ext w wr ∧ Blk wr w.heap.size 27 cs ∧ Blk wr (w.heap.size + 1) 27 docZero ∧ DocOwn wr L (d.withEvs ((d.evs.take i).map (Ev.mv fr sh) ++ d.evs.drop i)) h ∧ L ≤ wr.heap.size
set_option maxRecDepth 100000 in
set_option maxHeartbeats 4000000 in
theorem DShift_any (d : Doc) (h : DocH) (fr sh : Int) (w : World) (hE : Env w) (hat : DocAt w d h) (hf : DocFit d) (hrn : h.rn ≤ 9223372036854775807) (hr : h.rn * 56 ≤ 140737488355328) (hn : h.en ≤ 1000000) (hcn : h.cn ≤ 1000000) :
    Calls Tryz.prog 32 #[.agg (d.cells h), .int .i64 fr, .int .i64 sh] w (DEPost (d.shX fr sh) w) := by
  have HX : Hid (Ext w ((w.alloc (.cells (d.cells h) 27)).alloc (.cells docZero 27))) := ((Ext.refl w).alloc _).alloc _
  have HB : Hid (Blk ((w.alloc (.cells (d.cells h) 27)).alloc (.cells docZero 27)) w.heap.size 27 (d.cells h)) := (Blk.new w _ _).alloc _
  have HZ : Hid (Blk ((w.alloc (.cells (d.cells h) 27)).alloc (.cells docZero 27)) (w.heap.size + 1) 27 docZero) := Blk.new' (by simp)
  have HCk := Lib.hid (fun w' (hx : Ext w w') => DCheck_any d h w' (hE.ext hx) (hat.ext hx) hf hrn hn (by omega))
  have HCl := Lib.hid (fun w' (hx : Ext w w') => DClone_any d h w' (hat.ext hx) hr (by omega) (by omega))
  have HEln := Lib.hid hat.evs.len
  have HAt := Lib.hid hat.coms
  have HCln := Lib.hid hat.coms.len
  have END : ∀ (w9 : World) (e : Int), Ext w w9 → Blk w9 (w.heap.size + 1) 27 docZero → d.shX fr sh = (Doc.zero, e) → ∀ (tmps : Array Value), tmps.getD 6 undef = .pointer (some ⟨w.heap.size + 1, 0, none⟩) → tmps.getD 7 undef = .int .i64 e →
      (results Tryz.f32 tmps).run Tryz.prog (putB w9 (w.heap.size + 1) 27 docZero) = .ok (.tuple #[.agg docZero, .int .i64 e]) (putB w9 (w.heap.size + 1) 27 docZero) ∧
        DEPost (d.shX fr sh) w (.returned (.tuple #[.agg docZero, .int .i64 e])) (putB w9 (w.heap.size + 1) 27 docZero) := fun w9 e hx hz he tmps h8 h9 => by
    refine ⟨?_, dePost_err he (hx.put (by omega) _ _)⟩
    have := results_B_tmp (P := Tryz.prog) Tryz.results32 (tmps := tmps) (w := putB w9 (w.heap.size + 1) 27 docZero) (g := w.heap.size + 1) h8 (hz.put _) Tryz.underlying27 rfl size_docI
    rw [this, h9]
  have HEnd := Lib.hid END
  clear END hat hE hf hrn hr
  obtain ⟨hra, nr, hrc, hea, hen, hec, hca, nc, hcc⟩ := h
  unfold DClPost at HCl
  unfold Doc.cells docZero at *
  dsimp only at *
  go_enter Tryz.func32, Tryz.ntmps32
  go_wp2_with (refine wpList_loadB rfl 27 (.tmp 3) rfl (w.heap.size) 27 _ _ (by exact rfl) (by exact HB.out) Tryz.underlying27 rfl (by exact size_docI) ?_)
  refine (HCk.out _ HX.out).mono ?_
  rintro en w0 ⟨rfl, hx0⟩
  have HX1 := Lib.hid (HX.out.trans hx0)
  have HB1 := Lib.hid (HB.out.ext hx0)
  have HZ1 := Lib.hid (HZ.out.ext hx0)
  clear hx0 HX HB HZ HCk
  by_cases h0 : d.err = 0
  case neg =>
    have hne2 : (d.err != 0) = true := by simpa using h0
    have HR1 : Hid (d.shX fr sh = (Doc.zero, d.err)) := sh_1 h0
    clear h0
    go_wp2_with (refine wpList_storeB rfl 27 (.tmp 6) _ rfl (w.heap.size + 1) 27 _ _ (by exact rfl) (by exact rfl) (by exact HZ1.out) (by exact rfl) (by exact size_docI) (by simp [Value.oneCell']) ?_)
    exact (fun q => bodyPost_ret q.1 rfl q.2) (HEnd.out _ _ HX1.out HZ1.out (HR1.out) _ (by exact rfl) (by exact rfl))
  have HC := Lib.hid h0
  rw [h0]
  clear h0
  by_cases hlo : sh < -5184000
  · have HR1 : Hid (d.shX fr sh = (Doc.zero, 2)) := sh_2 HC.out (.inl hlo)
    go_wp2_with (refine wpList_storeB rfl 27 (.tmp 6) _ rfl (w.heap.size + 1) 27 _ _ (by exact rfl) (by exact rfl) (by exact HZ1.out) (by exact rfl) (by exact size_docI) (by simp [Value.oneCell']) ?_)
    exact (fun q => bodyPost_ret q.1 rfl q.2) (HEnd.out _ _ HX1.out HZ1.out (HR1.out) _ (by exact rfl) (by exact rfl))
  by_cases hhi : 5184000 < sh
  · have HR1 : Hid (d.shX fr sh = (Doc.zero, 2)) := sh_2 HC.out (.inr hhi)
    have hlo2 : -5184000 ≤ sh := by omega
    go_wp2_with (refine wpList_storeB rfl 27 (.tmp 6) _ rfl (w.heap.size + 1) 27 _ _ (by exact rfl) (by exact rfl) (by exact HZ1.out) (by exact rfl) (by exact size_docI) (by simp [Value.oneCell']) ?_)
    exact (fun q => bodyPost_ret q.1 rfl q.2) (HEnd.out _ _ HX1.out HZ1.out (HR1.out) _ (by exact rfl) (by exact rfl))
  have HRg : Hid (¬ (sh < -5184000 ∨ 5184000 < sh)) := by show ¬ _; omega
  go_wp2_with (refine wpList_loadB rfl 27 (.tmp 3) rfl (w.heap.size) 27 _ _ (by exact rfl) (by exact HB1.out) Tryz.underlying27 rfl (by exact size_docI) ?_)
  refine (HCl.out _ HX1.out).mono ?_
  rintro en w5 ⟨⟨ra, rn, rc, ea, en5, ec, ca, cn, cc⟩, rfl, ho5, hx5⟩
  dsimp only
  have hsz := HX1.out.size
  have hszz := HZ1.out.lt
  have hen6 : en5 ≤ 1000000 := by have := ho5.evs.len; have := HEln.out; dsimp only at *; omega
  have hel5 : d.evs.length = en5 := ho5.evs.len
  have HX5 := Lib.hid (HX1.out.trans hx5)
  have HB5 := Lib.hid (HB1.out.ext hx5)
  have HZ5 := Lib.hid (HZ1.out.ext hx5)
  have HO5 := Lib.hid (DocOwn.put ho5 HB5.out #[.string d.title, .string d.lang, .int .u8 d.rate, .bool d.drop, .int .i64 d.last, .slice ra rn rc, .slice ea en5 ec, .slice ca cn cc])
  have HP5 := Lib.hid (HB5.out.put #[.string d.title, .string d.lang, .int .u8 d.rate, .bool d.drop, .int .i64 d.last, .slice ra rn rc, .slice ea en5 ec, .slice ca cn cc])
  have HZ5' := Lib.hid (HZ5.out.put_other (g' := w.heap.size) (t' := 27) (by omega) #[.string d.title, .string d.lang, .int .u8 d.rate, .bool d.drop, .int .i64 d.last, .slice ra rn rc, .slice ea en5 ec, .slice ca cn cc])
  have HX5' := Lib.hid (HX5.out.put (g := w.heap.size) (Nat.le_refl _) 27 #[.string d.title, .string d.lang, .int .u8 d.rate, .bool d.drop, .int .i64 d.last, .slice ra rn rc, .slice ea en5 ec, .slice ca cn cc])
  have hcp := fun o => HP5.out.cell o
  have hx5s := hx5.size
  clear ho5 hx5 HX5 HZ5
  go_upto_region 7 with (refine wpList_storeB rfl 27 (.tmp 3) _ rfl (w.heap.size) 27 _ _ (by exact rfl) (by exact rfl) (by exact HB5.out) (by exact rfl) (by exact size_docI) (by simp [Value.oneCell']) ?_)
  obtain ⟨W, hW⟩ : ∃ W, W = putB w5 w.heap.size 27 #[.string d.title, .string d.lang, .int .u8 d.rate, .bool d.drop, .int .i64 d.last, .slice ra rn rc, .slice ea en5 ec, .slice ca cn cc] := ⟨_, rfl⟩
  rw [← hW] at HO5 HP5 HZ5' HX5' hcp ⊢
  have HWs : Hid (w0.heap.size ≤ W.heap.size) := by show _ ≤ _; rw [hW]; rw [putB_size]; exact hx5s
  clear hW HB5 hx5s
  go_wp2_with fail
  clear hcp
  go_loopw [29] (fun ki wr => ShLoop d fr sh w ⟨ra, rn, rc, ea, en5, ec, ca, cn, cc⟩ w0.heap.size #[.string d.title, .string d.lang, .int .u8 d.rate, .bool d.drop, .int .i64 d.last, .slice ra rn rc, .slice ea en5 ec, .slice ca cn cc] ki wr) (fun ki _ => en5 - (intOf ki).toNat)
  case atStart => exact ⟨0, Nat.zero_le _, rfl, rfl, HX5'.out, HP5.out, HZ5'.out, HO5.out, HWs.out⟩
  case round =>
    obtain ⟨ki, hi, rfl, hany, hx8, hp8, hz8, ho8, hls⟩ := hrel
    dsimp only at hi
    have HAny := Lib.hid hany
    have HX8 := Lib.hid hx8
    have HP8 := Lib.hid hp8
    have HZ8 := Lib.hid hz8
    have HO8 := Lib.hid ho8
    clear hx8 hp8 hz8 ho8 hany HX5' HP5 HZ5' HO5
    have hcp := fun o => HP8.out.cell o
    by_cases hlt : ki < en5
    · obtain ⟨g, hea5, hLg⟩ := HO8.out.ev_at hlt
      dsimp only at hea5
      have heas := hea5
      subst hea5
      obtain ⟨x, hx0⟩ : ∃ x, d.evs[ki]? = some x := ⟨_, List.getElem?_eq_getElem (by omega)⟩
      have hus := upd_step (Ev.mv fr sh) d.evs ki x hx0
      have HNx := Lib.hid (upd_next (Ev.mv fr sh) d.evs ki x hx0)
      have HUs := Lib.hid hus.2
      have HU1 := Lib.hid hus.1
      have HX0 := Lib.hid hx0
      obtain ⟨hb0, hb1, hb2⟩ := evs_in HC.out hx0
      have c1 := (HO8.out.ev_cell (j := 1) (u := .int .i64 x.inn) heas hus.1 (fun _ _ _ => rfl)).1
      have c2 := (HO8.out.ev_cell (j := 2) (u := .int .i64 x.out) heas hus.1 (fun _ _ _ => rfl)).1
      have HHe := Lib.hid heas
      clear hus hx0 heas
      by_cases hfr : x.inn < fr
      · have HMv : Hid (Ev.mv fr sh x = x) := by show _ = _; unfold Ev.mv; rw [if_pos hfr]
        have HNb : Hid (Ev.mvBad fr sh x = false) := by show _ = _; unfold Ev.mvBad; exact decide_eq_false (by omega)
        go_wp2_with fail
        clear hcp
        refine ⟨⟨ki + 1, by dsimp only; omega, by go_num, any_next HX0.out HAny.out HNb.out, HX8.out, HP8.out, HZ8.out, ?_, hls⟩, by simp [intOf]; omega⟩
        rw [HNx.out, HMv.out, ← drop_at d.evs ki x HX0.out]
        exact HO8.out
      have HMv : Hid (Ev.mv fr sh x = ⟨x.id, x.inn + sh, x.out + sh, x.region, x.kind, x.speaker, x.rows⟩) := by show _ = _; unfold Ev.mv; rw [if_neg hfr]
      have HT : Hid (Typed wr 66 g) := by
        obtain ⟨hs, h1, -⟩ := HO8.out.evs
        exact own_typed h1 g rfl
      have hw1 : IntKind.i64.wrap (x.inn + sh) = x.inn + sh := by rw [IntKind.wrap_i64]; omega
      have hw2 : IntKind.i64.wrap (x.out + sh) = x.out + sh := by rw [IntKind.wrap_i64]; omega
      have hil : ki < ((d.evs.take ki).map (Ev.mv fr sh) ++ d.evs.drop ki).length := (List.getElem?_eq_some_iff.1 HU1.out).1
      have q1 := List.getElem?_set_self (a := (⟨x.id, x.inn + sh, x.out, x.region, x.kind, x.speaker, x.rows⟩ : Ev)) hil
      have HS1 := Lib.hid (fun w5 (hx : Ext wr w5) => (HO8.out.ext hx).ev_set (e' := ⟨x.id, x.inn + sh, x.out, x.region, x.kind, x.speaker, x.rows⟩) (j := 1) (u := .int .i64 (x.inn + sh)) HHe.out HU1.out (fun _ _ _ => rfl) rfl (by decide))
      have HF2 : Hid (∀ w5, Ext wr w5 → (w5.setCell ⟨g, ki * 7 + 1, none⟩ (.int .i64 (x.inn + sh))).cell? ⟨g, ki * 7 + 2, none⟩ = some (.int .i64 x.out) ∧ (w5.setCell ⟨g, ki * 7 + 1, none⟩ (.int .i64 (x.inn + sh))).frozen? ⟨g, ki * 7 + 2, none⟩ = false) := fun w5 hx => (HS1.out w5 hx).1.ev_cell (j := 2) HHe.out q1 (fun _ _ _ => rfl)
      have HS2 := Lib.hid (fun w5 (hx : Ext wr w5) => (HS1.out w5 hx).1.ev_set (e' := ⟨x.id, x.inn + sh, x.out + sh, x.region, x.kind, x.speaker, x.rows⟩) (j := 2) (u := .int .i64 (x.out + sh)) HHe.out q1 (fun _ _ _ => rfl) rfl (by decide))
      clear q1 hil
      go_upto_region 12 with fail
      clear hcp
      refine wp_region_links [some 43, some 44, some 45, some 46, some 47, some 48, some 49, some 50, some 51, some 52, some 53, some 54, some 55, some 56, some 57, some 58, none, some 59, some 60, none] [[], [], [], [2], [3], [4], [], [5, 6], [], [8], [9], [10], [], [11, 12], [0, 0, 2, 3, 4, 5, 6, 7, 11], [14, 0, 2, 3, 4, 5, 6, 7, 11], [15, 7, 0, 2, 3, 4, 5, 6, 7, 11], [1, 0, 1, 2, 3, 4, 5, 6, 7, 8, 9, 10, 11, 12, 13, 14, 15, 16], [17, 0, 1, 2, 3, 4, 5, 6, 7, 8, 9, 10, 11, 12, 13, 14, 15, 16], [18, 13, 16, 0, 1, 2, 3, 4, 5, 6, 7, 8, 9, 10, 11, 12, 13, 14, 15, 16]] [16, 19] [.pointer (some ⟨g, ki * 7 + 1, none⟩), .pointer (some ⟨g, ki * 7 + 1, none⟩), .pointer (some ⟨g, ki * 7 + 1, none⟩), .pointer (some ⟨g, ki * 7 + 1, none⟩), .pointer (some ⟨g, ki * 7 + 1, none⟩), .int .i64 x.inn, .int .i64 sh, .int .i64 (x.inn + sh), .pointer (some ⟨g, ki * 7 + 1, none⟩), .pointer (some ⟨g, ki * 7 + 1, none⟩), .pointer (some ⟨g, ki * 7 + 2, none⟩), .int .i64 x.out, .int .i64 sh, .int .i64 (x.out + sh), .pointer (some ⟨g, ki * 7 + 1, none⟩), .pointer (some ⟨g, ki * 7 + 1, none⟩), undef, .pointer (some ⟨g, ki * 7 + 1, none⟩), .pointer (some ⟨g, ki * 7 + 2, none⟩), undef] (ShJ ⟨g, ki * 7 + 1, none⟩ (.int .i64 (x.inn + sh)) ⟨g, ki * 7 + 2, none⟩ (.int .i64 (x.out + sh)) wr) (by kernel_rfl) (by kernel_rfl) (by kernel_rfl) (by kernel_rfl) (by kernel_rfl) (by kernel_rfl) (by kernel_rfl) (by decide) ?_ ?_ ?_ ?_
      · exact ShJ.start wr
      · intro i o ho hc a w' us K' hJ hF hlim hk
        match i, ho with
        | 0, ho =>
          simp only [List.getElem?_toArray, List.getElem?_cons_zero, List.getElem?_cons_succ, Option.some.injEq] at ho
          subst ho
          have e10 := hF.old 10 (.pointer (some ⟨g, ki * 7 + 1, none⟩)) rfl rfl
          simp only [Act.eval] at e10
          clear hF hlim hJ
          go_simp
          exact hk
        | 1, ho =>
          simp only [List.getElem?_toArray, List.getElem?_cons_zero, List.getElem?_cons_succ, Option.some.injEq] at ho
          subst ho
          have e10 := hF.old 10 (.pointer (some ⟨g, ki * 7 + 1, none⟩)) rfl rfl
          simp only [Act.eval] at e10
          clear hF hlim hJ
          go_simp
          exact hk
        | 2, ho =>
          simp only [List.getElem?_toArray, List.getElem?_cons_zero, List.getElem?_cons_succ, Option.some.injEq] at ho
          subst ho
          have e10 := hF.old 10 (.pointer (some ⟨g, ki * 7 + 1, none⟩)) rfl rfl
          simp only [Act.eval] at e10
          clear hF hlim hJ
          go_simp
          exact hk
        | 3, ho =>
          simp only [List.getElem?_toArray, List.getElem?_cons_zero, List.getElem?_cons_succ, Option.some.injEq] at ho
          subst ho
          have e45 := hF.pure 2 45 (.pointer (some ⟨g, ki * 7 + 1, none⟩)) rfl rfl rfl rfl
          simp only [Act.eval] at e45
          clear hF hlim hJ
          go_simp
          exact hk
        | 4, ho =>
          simp only [List.getElem?_toArray, List.getElem?_cons_zero, List.getElem?_cons_succ, Option.some.injEq] at ho
          subst ho
          have e46 := hF.pure 3 46 (.pointer (some ⟨g, ki * 7 + 1, none⟩)) rfl rfl rfl rfl
          simp only [Act.eval] at e46
          clear hF hlim hJ
          go_simp
          exact hk
        | 5, ho =>
          simp only [List.getElem?_toArray, List.getElem?_cons_zero, List.getElem?_cons_succ, Option.some.injEq] at ho
          subst ho
          have e47 := hF.pure 4 47 (.pointer (some ⟨g, ki * 7 + 1, none⟩)) rfl rfl rfl rfl
          obtain rfl : us = [] := List.eq_nil_of_length_eq_zero (by have := hlim 0 16 rfl rfl; omega)
          have hcl := (hJ.nil rfl).cell c1
          simp only [Act.eval] at e47
          clear hF hlim hJ
          go_simp
          exact hk
        | 6, ho =>
          simp only [List.getElem?_toArray, List.getElem?_cons_zero, List.getElem?_cons_succ, Option.some.injEq] at ho
          subst ho
          have e2 := hF.old 2 (.int .i64 sh) rfl rfl
          simp only [Act.eval] at e2
          clear hF hlim hJ
          go_simp
          exact hk
        | 7, ho =>
          simp only [List.getElem?_toArray, List.getElem?_cons_zero, List.getElem?_cons_succ, Option.some.injEq] at ho
          subst ho
          have e48 := hF.pure 5 48 (.int .i64 x.inn) rfl rfl rfl rfl
          have e49 := hF.pure 6 49 (.int .i64 sh) rfl rfl rfl rfl
          simp only [Act.eval] at e48 e49
          clear hF hlim hJ
          go_simp
          exact hk
        | 8, ho =>
          simp only [List.getElem?_toArray, List.getElem?_cons_zero, List.getElem?_cons_succ, Option.some.injEq] at ho
          subst ho
          have e10 := hF.old 10 (.pointer (some ⟨g, ki * 7 + 1, none⟩)) rfl rfl
          simp only [Act.eval] at e10
          clear hF hlim hJ
          go_simp
          exact hk
        | 9, ho =>
          simp only [List.getElem?_toArray, List.getElem?_cons_zero, List.getElem?_cons_succ, Option.some.injEq] at ho
          subst ho
          have e51 := hF.pure 8 51 (.pointer (some ⟨g, ki * 7 + 1, none⟩)) rfl rfl rfl rfl
          simp only [Act.eval] at e51
          clear hF hlim hJ
          go_simp
          exact hk
        | 10, ho =>
          simp only [List.getElem?_toArray, List.getElem?_cons_zero, List.getElem?_cons_succ, Option.some.injEq] at ho
          subst ho
          have e52 := hF.pure 9 52 (.pointer (some ⟨g, ki * 7 + 1, none⟩)) rfl rfl rfl rfl
          simp only [Act.eval] at e52
          clear hF hlim hJ
          go_simp
          exact hk
        | 11, ho =>
          simp only [List.getElem?_toArray, List.getElem?_cons_zero, List.getElem?_cons_succ, Option.some.injEq] at ho
          subst ho
          have e53 := hF.pure 10 53 (.pointer (some ⟨g, ki * 7 + 2, none⟩)) rfl rfl rfl rfl
          obtain rfl : us = [] := List.eq_nil_of_length_eq_zero (by have := hlim 0 16 rfl rfl; omega)
          have hcl := (hJ.nil rfl).cell c2
          simp only [Act.eval] at e53
          clear hF hlim hJ
          go_simp
          exact hk
        | 12, ho =>
          simp only [List.getElem?_toArray, List.getElem?_cons_zero, List.getElem?_cons_succ, Option.some.injEq] at ho
          subst ho
          have e2 := hF.old 2 (.int .i64 sh) rfl rfl
          simp only [Act.eval] at e2
          clear hF hlim hJ
          go_simp
          exact hk
        | 13, ho =>
          simp only [List.getElem?_toArray, List.getElem?_cons_zero, List.getElem?_cons_succ, Option.some.injEq] at ho
          subst ho
          have e54 := hF.pure 11 54 (.int .i64 x.out) rfl rfl rfl rfl
          have e55 := hF.pure 12 55 (.int .i64 sh) rfl rfl rfl rfl
          simp only [Act.eval] at e54 e55
          clear hF hlim hJ
          go_simp
          exact hk
        | 14, ho =>
          simp only [List.getElem?_toArray, List.getElem?_cons_zero, List.getElem?_cons_succ, Option.some.injEq] at ho
          subst ho
          have e43 := hF.pure 0 43 (.pointer (some ⟨g, ki * 7 + 1, none⟩)) rfl rfl rfl rfl
          simp only [Act.eval] at e43
          clear hF hlim hJ
          go_simp
          exact hk
        | 15, ho =>
          simp only [List.getElem?_toArray, List.getElem?_cons_zero, List.getElem?_cons_succ, Option.some.injEq] at ho
          subst ho
          have e57 := hF.pure 14 57 (.pointer (some ⟨g, ki * 7 + 1, none⟩)) rfl rfl rfl rfl
          simp only [Act.eval] at e57
          clear hF hlim hJ
          go_simp
          exact hk
        | 16, ho => simp at hc
        | 17, ho =>
          simp only [List.getElem?_toArray, List.getElem?_cons_zero, List.getElem?_cons_succ, Option.some.injEq] at ho
          subst ho
          have e44 := hF.pure 1 44 (.pointer (some ⟨g, ki * 7 + 1, none⟩)) rfl rfl rfl rfl
          simp only [Act.eval] at e44
          clear hF hlim hJ
          go_simp
          exact hk
        | 18, ho =>
          simp only [List.getElem?_toArray, List.getElem?_cons_zero, List.getElem?_cons_succ, Option.some.injEq] at ho
          subst ho
          have e59 := hF.pure 17 59 (.pointer (some ⟨g, ki * 7 + 1, none⟩)) rfl rfl rfl rfl
          simp only [Act.eval] at e59
          clear hF hlim hJ
          go_simp
          exact hk
        | 19, ho => simp at hc
        | i + 20, ho => simp at ho
      · intro p c' o hp ho a w' us K' hl hJ hF hk
        match p, hp with
        | 0, hp =>
          obtain rfl : 16 = c' := by simpa using hp
          simp only [List.getElem?_toArray, List.getElem?_cons_zero, List.getElem?_cons_succ, Option.some.injEq] at ho
          subst ho
          obtain rfl : us = [] := List.eq_nil_of_length_eq_zero hl
          have e58 := hF.pure 15 58 (.pointer (some ⟨g, ki * 7 + 1, none⟩)) rfl rfl rfl rfl
          have e50 := hF.pure 7 50 (.int .i64 (x.inn + sh)) rfl rfl rfl rfl
          have hc := (hJ.nil rfl).cell c1
          have hf := (HT.out.ext (hJ.nil rfl)).frozen (ki * 7 + 1)
          simp only [Act.eval] at e50 e58
          have HK := Lib.hid (hk (.tuple #[]) _ hJ.sto1)
          clear hk hF hJ
          go_simp
          exact HK.out
        | 1, hp =>
          obtain rfl : 19 = c' := by simpa using hp
          simp only [List.getElem?_toArray, List.getElem?_cons_zero, List.getElem?_cons_succ, Option.some.injEq] at ho
          subst ho
          obtain ⟨u0, rfl⟩ := list_1 hl
          obtain ⟨w5, hx5, rfl⟩ := hJ.one u0 rfl
          have e60 := hF.pure 18 60 (.pointer (some ⟨g, ki * 7 + 2, none⟩)) rfl rfl rfl rfl
          have e56 := hF.pure 13 56 (.int .i64 (x.out + sh)) rfl rfl rfl rfl
          obtain ⟨hc, hf⟩ := HF2.out w5 hx5
          simp only [Act.eval] at e56 e60
          have HK := Lib.hid (hk (.tuple #[]) _ (hJ.sto2 hx5))
          clear hk hF hJ
          go_simp
          exact HK.out
        | p + 2, hp => simp at hp
      intro us w9 hl hJ
      obtain ⟨u0, u1, rfl⟩ := list_2 hl
      first | (rename_i hK; refine hK _ _ ?_; clear hK) | (rename_i hK hK_1; refine hK _ _ ?_; clear hK) | (rename_i hK hK_1 hK_2; refine hK _ _ ?_; clear hK) | (rename_i hK hK_1 hK_2 hK_3; refine hK _ _ ?_; clear hK)
      generalize hL : frameL _ _ _ _ = L
      obtain rfl : L = [(43, .pointer (some ⟨g, ki * 7 + 1, none⟩)), (44, .pointer (some ⟨g, ki * 7 + 1, none⟩)), (45, .pointer (some ⟨g, ki * 7 + 1, none⟩)), (46, .pointer (some ⟨g, ki * 7 + 1, none⟩)), (47, .pointer (some ⟨g, ki * 7 + 1, none⟩)), (48, .int .i64 x.inn), (49, .int .i64 sh), (50, .int .i64 (x.inn + sh)), (51, .pointer (some ⟨g, ki * 7 + 1, none⟩)), (52, .pointer (some ⟨g, ki * 7 + 1, none⟩)), (53, .pointer (some ⟨g, ki * 7 + 2, none⟩)), (54, .int .i64 x.out), (55, .int .i64 sh), (56, .int .i64 (x.out + sh)), (57, .pointer (some ⟨g, ki * 7 + 1, none⟩)), (58, .pointer (some ⟨g, ki * 7 + 1, none⟩)), (59, .pointer (some ⟨g, ki * 7 + 1, none⟩)), (60, .pointer (some ⟨g, ki * 7 + 2, none⟩))] := hL.symm.trans (by kernel_rfl)
      clear hL hl
      simp only [Act.put, List.foldl_cons, List.foldl_nil, List.setIfInBounds_toArray, List.set_cons_zero, List.set_cons_succ]
      obtain ⟨w5', hx5, rfl⟩ := hJ.two u0 u1 rfl
      clear hJ
      have n1 : some w.heap.size ≠ some g := by intro h; injection h; omega
      have n2 : some (w.heap.size + 1) ≠ some g := by intro h; injection h; omega
      have g1 := (HS1.out w5' hx5).2
      have g2 := (HS2.out w5' hx5).2
      have HX9 := Lib.hid (((HX8.out.trans hx5).setCell (p := ⟨g, ki * 7 + 1, none⟩) (show w.heap.size ≤ g by omega) (.int .i64 (x.inn + sh))).setCell (p := ⟨g, ki * 7 + 2, none⟩) (show w.heap.size ≤ g by omega) (.int .i64 (x.out + sh)))
      have HP9 := Lib.hid (blk_away (blk_away (HP8.out.ext hx5) g1 n1) g2 n1)
      have HZ9 := Lib.hid (blk_away (blk_away (HZ8.out.ext hx5) g1 n2) g2 n2)
      have HO9 : Hid (DocOwn ((w5'.setCell ⟨g, ki * 7 + 1, none⟩ (.int .i64 (x.inn + sh))).setCell ⟨g, ki * 7 + 2, none⟩ (.int .i64 (x.out + sh))) w0.heap.size (d.withEvs ((d.evs.take (ki + 1)).map (Ev.mv fr sh) ++ d.evs.drop (ki + 1))) ⟨ra, rn, rc, some ⟨g, 0, none⟩, en5, ec, ca, cn, cc⟩) := by
        rw [HNx.out, HMv.out, ← HUs.out]
        have h9 : DocOwn _ _ (d.withEvs ((((d.evs.take ki).map (Ev.mv fr sh) ++ d.evs.drop ki).set ki ⟨x.id, x.inn + sh, x.out, x.region, x.kind, x.speaker, x.rows⟩).set ki ⟨x.id, x.inn + sh, x.out + sh, x.region, x.kind, x.speaker, x.rows⟩)) _ := (HS2.out w5' hx5).1
        rw [List.set_set] at h9
        exact h9
      have hu9 : (d.withEvs ((d.evs.take (ki + 1)).map (Ev.mv fr sh) ++ d.evs.drop (ki + 1))).evs[ki]? = some ⟨x.id, x.inn + sh, x.out + sh, x.region, x.kind, x.speaker, x.rows⟩ := by
        show ((d.evs.take (ki + 1)).map (Ev.mv fr sh) ++ d.evs.drop (ki + 1))[ki]? = _
        rw [HNx.out, HMv.out, ← HUs.out]
        exact List.getElem?_set_self (List.getElem?_eq_some_iff.1 HU1.out).1
      have d1 := (HO9.out.ev_cell (j := 1) (u := .int .i64 (x.inn + sh)) HHe.out hu9 (fun _ _ _ => rfl)).1
      have d2 := (HO9.out.ev_cell (j := 2) (u := .int .i64 (x.out + sh)) HHe.out hu9 (fun _ _ _ => rfl)).1
      have hls9 : w0.heap.size ≤ ((w5'.setCell ⟨g, ki * 7 + 1, none⟩ (.int .i64 (x.inn + sh))).setCell ⟨g, ki * 7 + 2, none⟩ (.int .i64 (x.out + sh))).heap.size := Nat.le_trans (Nat.le_trans hls hx5.size) (Nat.le_trans g1.size g2.size)
      obtain ⟨W9, hW9⟩ : ∃ W9, W9 = ((w5'.setCell ⟨g, ki * 7 + 1, none⟩ (.int .i64 (x.inn + sh))).setCell ⟨g, ki * 7 + 2, none⟩ (.int .i64 (x.out + sh))) := ⟨_, rfl⟩
      rw [← hW9] at HX9 HP9 HZ9 HO9 d1 d2 hls9 ⊢
      clear hW9 g1 g2 n1 n2 HS1 HS2 HF2 HX8 HP8 HZ8 HO8 hx5 hu9 c1 c2 hw1 hw2
      by_cases hk1 : x.inn + sh < 0
      · have HR1 : Hid (d.shX fr sh = (Doc.zero, 2)) := sh_3 HC.out (mv_bad HX0.out (by unfold Ev.mvBad; exact decide_eq_true ⟨hfr, .inl hk1⟩))
        go_wp2_with (refine wpList_storeB rfl 27 (.tmp 6) _ rfl (w.heap.size + 1) 27 _ _ (by exact rfl) (by exact rfl) (by exact HZ9.out) (by exact rfl) (by exact size_docI) (by simp [Value.oneCell']) ?_)
        exact (fun q => bodyPost_ret q.1 rfl q.2) (HEnd.out _ _ HX9.out HZ9.out (HR1.out) _ (by exact rfl) (by exact rfl))
      by_cases hk2 : 5184000 < x.out + sh
      · have HR1 : Hid (d.shX fr sh = (Doc.zero, 2)) := sh_3 HC.out (mv_bad HX0.out (by unfold Ev.mvBad; exact decide_eq_true ⟨hfr, .inr hk2⟩))
        go_wp2_with (refine wpList_storeB rfl 27 (.tmp 6) _ rfl (w.heap.size + 1) 27 _ _ (by exact rfl) (by exact rfl) (by exact HZ9.out) (by exact rfl) (by exact size_docI) (by simp [Value.oneCell']) ?_)
        exact (fun q => bodyPost_ret q.1 rfl q.2) (HEnd.out _ _ HX9.out HZ9.out (HR1.out) _ (by exact rfl) (by exact rfl))
      have HNb : Hid (Ev.mvBad fr sh x = false) := by show _ = _; unfold Ev.mvBad; exact decide_eq_false (by omega)
      go_wp2_with fail
      refine ⟨⟨ki + 1, by dsimp only; omega, by go_num, any_next HX0.out HAny.out HNb.out, HX9.out, HP9.out, HZ9.out, HO9.out, hls9⟩, by simp [intOf]; omega⟩
    · have hin : ki = en5 := by omega
      subst hin
      have HR1 : Hid (d.shX fr sh = (d.withEvs (srtE (d.evs.map (Ev.mv fr sh))), 0)) := sh_4 HC.out HRg.out (by have h := HAny.out; rw [List.take_of_length_le (by omega)] at h; exact h)
      have HO9 : Hid (DocOwn wr w0.heap.size (d.withEvs (d.evs.map (Ev.mv fr sh))) ⟨ra, rn, rc, ea, ki, ec, ca, cn, cc⟩) := by
        have h9 := HO8.out
        rw [List.take_of_length_le (by omega), List.drop_eq_nil_of_le (by omega), List.append_nil] at h9
        exact h9
      clear HO8
      have hfp := fun o => HP8.out.frozen o
      go_upto_region 16 with fail
      go_wp2_with fail
      refine (DSort_any _ _ _ _ _ HO9.out.at_.evs (show ki * 88 ≤ _ by omega)).mono ?_
      rintro en w7 ⟨v7, rfl, hev7, hx7⟩
      obtain ⟨A7, c7, hv7, -, -, -⟩ := hev7.at_
      subst hv7
      have hle := HX8.out.size
      have hsw : w0.heap.size ≤ wr.heap.size := hls
      have hO7 := HO9.out.ext hx7
      have HX7 := Lib.hid (HX8.out.trans hx7)
      have HP7 := Lib.hid (HP8.out.ext hx7)
      have HZ7 := Lib.hid (HZ8.out.ext hx7)
      have HO7 : Hid (DocOwn w7 w0.heap.size (d.withEvs (srtE (d.evs.map (Ev.mv fr sh)))) ⟨ra, rn, rc, A7, ki, c7, ca, cn, cc⟩) := ⟨hO7.regs, hO7.rlen, hev7.le hsw, hO7.coms, hO7.clen⟩
      clear hcp hfp hO7 hev7 hx7 HX8 HP8 HZ8 HO9
      have hs7 := setCell_put HP7.out 6 (.slice A7 ki c7)
      have hc7 := HP7.out.cell 6
      have hf7 := HP7.out.frozen 6
      simp at hs7 hc7
      have HP9 := Lib.hid (HP7.out.put #[.string d.title, .string d.lang, .int .u8 d.rate, .bool d.drop, .int .i64 d.last, .slice ra rn rc, .slice A7 ki c7, .slice ca cn cc])
      have HZ9 := Lib.hid (HZ7.out.put_other (g' := w.heap.size) (t' := 27) (by omega) #[.string d.title, .string d.lang, .int .u8 d.rate, .bool d.drop, .int .i64 d.last, .slice ra rn rc, .slice A7 ki c7, .slice ca cn cc])
      have HX9 := Lib.hid (HX7.out.put (g := w.heap.size) (Nat.le_refl _) 27 #[.string d.title, .string d.lang, .int .u8 d.rate, .bool d.drop, .int .i64 d.last, .slice ra rn rc, .slice A7 ki c7, .slice ca cn cc])
      have HO9 := Lib.hid (HO7.out.put HP7.out #[.string d.title, .string d.lang, .int .u8 d.rate, .bool d.drop, .int .i64 d.last, .slice ra rn rc, .slice A7 ki c7, .slice ca cn cc])
      go_wp2_with (first | (refine wpList_loadB rfl 27 (.tmp 3) rfl (w.heap.size) 27 _ _ (by exact rfl) (by exact HP9.out) Tryz.underlying27 rfl (by exact size_docI) ?_) | (refine wpList_storeB rfl 27 (.tmp 6) _ rfl (w.heap.size + 1) 27 _ _ (by exact rfl) (by exact rfl) (by exact HZ9.out) (by exact rfl) (by exact size_docI) (by simp [Value.oneCell']) ?_))
      refine bodyPost_ret (v := .tuple #[.agg ((d.shX fr sh).1.cells ⟨ra, rn, rc, A7, ki, c7, ca, cn, cc⟩), .int .i64 (d.shX fr sh).2]) ?_ rfl ⟨⟨ra, rn, rc, A7, ki, c7, ca, cn, cc⟩, rfl, ?_, ?_⟩
      · rw [HR1.out]
        exact results_B_tmp (P := Tryz.prog) Tryz.results32 (g := w.heap.size + 1) rfl (by exact HZ9.out.put _) Tryz.underlying27 rfl size_docI
      · rw [HR1.out]
        exact (HO9.out.le hsz).put HZ9.out _
      · exact HX9.out.put (by omega) _ _
end Go.Proofs.YtagfedbdakmlgaaGreatDoor
