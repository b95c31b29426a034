/- Laid together: The walk of document.Sort. The walk of document.Insert. -/
import Derived.Test.YtagfedbdakmlgaaGreatDoorIn12
import Derived.Test.YtagfedbdakmlgaaGreatDoorIn13
import Derived.Test.YtagfedbdakmlgaaGreatDoorIn04
import Derived.Test.YtagfedbdakmlgaaGreatDoorIn08

/-! SortD -/
namespace Go.Proofs.YtagfedbdakmlgaaGreatDoor
set_option linter.unusedVariables false
set_option linter.unusedSimpArgs false
open Go.RowKit
set_option maxRecDepth 100000 in
set_option maxHeartbeats 2000000 in
theorem sortF_d (x y : EH) (w : World) :
    Calls Tryz.prog 107 #[.agg x.vals.toArray, .agg y.vals.toArray] w fun e w' => e = .returned (.int .i64 (cmpH x y)) ∧ Extd w w' := by
  have HX := Lib.hid (((Extd.refl w).alloc (.cells x.vals.toArray 66)).alloc (.cells y.vals.toArray 66))
  have HV : Hid (orI (cmpI x.inn y.inn) (cmpI x.id y.id) = cmpH x y) := rfl
  unfold EH.vals at HX ⊢
  go_enter Tryz.func107, Tryz.ntmps107
  go_wp2_with fail
  go_region_held3 (fun w' => w'.cell? ⟨w.heap.size, 0, none⟩ = some (.int .i64 x.id) ∧ w'.cell? ⟨w.heap.size, 1, none⟩ = some (.int .i64 x.inn) ∧ w'.cell? ⟨w.heap.size + 1, 0, none⟩ = some (.int .i64 y.id) ∧ w'.cell? ⟨w.heap.size + 1, 1, none⟩ = some (.int .i64 y.inn)) (go_keep) (first | (go_at_call 109; refine (Compare_any _ _ _).mono ?_; rintro e w1 ⟨rfl, rfl⟩) | (go_at_call 108; refine (Or_any (cmpI x.inn y.inn) (cmpI x.id y.id) _ _ _ (by exact (Blk.drew (Blk.new' (by simp))).cell 0) (by exact (Blk.drew (Blk.new' (by simp))).cell 1)).mono ?_; rintro e w1 ⟨rfl, rfl⟩))
  go_wp2_with fail
  go_ret
  exact ⟨ret_int HV.out, (HX.out.drew).alloc _⟩
theorem sortF_lays (g off n : Nat) (w : World) : Go.Proofs.CmpLays Tryz.prog 107 #[] EH.vals 7 cmpH g off n w :=
  fun _ _ _ _ x y => (sortF_d x y _).mono fun _ _ ⟨he, hx⟩ => ⟨he, hx.grow⟩
theorem sortF_enter : ∀ args w, (callFunc 107 args).run Tryz.prog w = .ok (.enter 107 args) w := Go.Proofs.enters_of Tryz.func107 (by kernel_rfl) rfl
theorem EH.ones (x : EH) : ∀ v ∈ x.vals, v.oneCell' = true := by
  intro v hv
  simp only [EH.vals, List.mem_cons, List.not_mem_nil, or_false] at hv
  rcases hv with rfl | rfl | rfl | rfl | rfl | rfl | rfl <;> rfl
/-- events are sorted into memory of one's own -/
def SortPost (l : List Ev) (n : Nat) (w : World) (en : Ending) (w' : World) : Prop := ∃ v, en = .returned v ∧ EvsOwn w' w.heap.size v n (srtE l) ∧ Ext w w'
def SortLoop (l : List Ev) (n : Nat) (w : World) (v i : Value) (wr : World) : Prop := ∃ k : Nat, k ≤ n ∧ i = .int .i64 k ∧ Ext w wr ∧ EvsOwn wr w.heap.size v k (l.take k)
theorem SortLoop.step {w wr w2 : World} {k : Nat} {l : List Ev} {v v' : Value} {e : Ev} {hs : List EH} {A' : Option Addr} {n' c' : Nat} (hx : Ext w wr) (r : EvsOwn wr w.heap.size v k (l.take k)) (he : l[k]? = some e) (h1 : wr.ownsRow w.heap.size 66 7 v k (hs.flatMap EH.vals))
    (hg : EGood wr w.heap.size (EH.of e A' n' c') e) (hgr : wr.grownBy w2 v.ownBlock) (hO : w2.ownsRow w.heap.size 66 7 v' (k + 1) (hs.flatMap EH.vals ++ (e.cells A' n' c').toList)) : Ext w w2 ∧ EvsOwn w2 w.heap.size v' (k + 1) (l.take (k + 1)) := by
  refine ⟨hx.grown hgr (fun q hq => own_lt h1 q hq), ?_⟩
  rw [take_snoc' l k e he]
  exact r.push h1 hg hgr hO
/-- SortStableFunc at a row of events of one's own -/
theorem stable_own {w w0 : World} {L n : Nat} {v : Value} {l : List Ev} (h : EvsOwn w L v n l) (hn : n < 1152921504606846976) (hx : Ext w0 w) (hL : w0.heap.size ≤ L) :
    Calls Tryz.prog 106 #[v, .func (.func 107) #[] #[]] w fun e w' => e = .returned (.tuple #[]) ∧ EvsOwn w' L v n (srtE l) ∧ Ext w0 w' := by
  obtain ⟨hs, h1, h2, h3, h4⟩ := h
  rcases h1.2 with ⟨hv, hn0⟩ | ⟨g, c, cur, rfl, hg, hb, -⟩
  · subst hv
    refine (sortStable_nil stL _ w).mono ?_
    rintro e w' ⟨rfl, rfl⟩
    have hl : l = [] := List.length_eq_zero_iff.1 (by omega)
    subst hl
    exact ⟨rfl, ⟨hs, h1, h2, h3, fun i h e a b => by simp [srtE, Stb.sortS] at b⟩, hx⟩
  · have hg' : g < w.heap.size := (Array.getElem?_eq_some_iff.1 hb).1
    have hz : hs.toArray.size = n := by simp [h2]
    have hH := own_holds EH.len h1 h2
    have hcon := sortStable_st stL EH.vals cmpH 107 #[] g 0 c hs.toArray hs.toArray w w sortF_enter (sortF_lays g 0 _ w) ⟨EH.len, EH.ones, hH, hg'⟩ rfl (Go.Proofs.SWK.start hH) (by rw [hz]; exact hn) (by rw [ltOf_H]; exact ltH_sw)
    rw [hz] at hcon
    refine hcon.mono ?_
    rintro e w' ⟨rfl, d', hd', hS, hl⟩
    obtain ⟨hs', rfl⟩ : ∃ hs' : List EH, d' = hs'.toArray := ⟨d'.toList, by simp⟩
    refine ⟨rfl, EvsOwn.sorted h1 h2 h3 h4 hS (by rw [ltOf_H] at hl; simpa using hl), hx.grown (swk_grown hS) (fun q hq => by cases hq; omega)⟩
set_option maxRecDepth 100000 in
set_option maxHeartbeats 4000000 in
theorem DSort_any (l : List Ev) (A : Option Addr) (n c : Nat) (w : World) (hat : EvsAt w A n l) (hn : n * 88 ≤ 140737488355328) :
    Calls Tryz.prog 44 #[.slice A n c] w (SortPost l n w) := by
  have HE := Lib.hid hat
  have HEl := Lib.hid hat.len
  clear hat
  go_enter Tryz.func44, Tryz.ntmps44
  go_wp2_with fail
  go_loopw [3, 8] (fun v i wr => SortLoop l n w v i wr) (fun _ i _ => n - (intOf i).toNat)
  case atStart => exact ⟨0, Nat.zero_le _, rfl, Ext.refl w, EvsOwn.nil _ _⟩
  case round =>
    obtain ⟨k, hk, rfl, hx, hev⟩ := hrel
    have HXr := Lib.hid hx
    have HEv := Lib.hid hev
    clear hx hev
    by_cases hlt : k < n
    · obtain ⟨b, off, x, A', n', c', rfl, hxx, hxat, e0, e1, e2, e3, e4, e5, e6⟩ := (HE.out.ext HXr.out).at_ev hlt
      have HXx := Lib.hid hxx
      have HCn := Lib.hid (fun w' (hx : Ext wr w') => EClone_any x A' n' c' w' (hxat.ext hx))
      have hn24 := hxat.2.2
      clear hxx hxat
      unfold EClPost Ev.cells at HCn
      have HBx := Lib.hid (Blk.new wr 66 #[.int .i64 x.id, .int .i64 x.inn, .int .i64 x.out, .string x.region, .int .u8 x.kind, .string x.speaker, .slice A' n' c'])
      go_wp2_with (refine wpList_loadB rfl 66 (.tmp 5) rfl wr.heap.size 66 _ _ (by exact rfl) (by exact HBx.out) Tryz.underlying66 rfl (by exact size_event) ?_)
      clear e0 e1 e2 e3 e4 e5 e6
      refine (HCn.out _ ((Ext.refl wr).alloc _)).mono ?_
      rintro en w5 ⟨A5, c5, rfl, hnc5, hrf5, hx5⟩
      have HX5 := Lib.hid (((Ext.refl wr).alloc (.cells #[.int .i64 x.id, .int .i64 x.inn, .int .i64 x.out, .string x.region, .int .u8 x.kind, .string x.speaker, .slice A' n' c'] 66)).trans hx5)
      have HRf := Lib.hid hrf5
      have hsz := HXr.out.size
      have hsz5 := HX5.out.size
      obtain ⟨hs, hown⟩ := (HEv.out.ext HX5.out).heads
      have HOw := Lib.hid hown
      clear hrf5 hx5 hown
      go_wp2_with (at_builtin; refine wpList_append1 rfl (.tmp 12) (.tmp 15) 24 rfl info_evtI Tryz.underlying24 rfl (by decide) (HOw.out.alloc _) (by exact rfl) w5.heap.size _ (by exact rfl) (by exact Blk.new' (by simp)) (by exact rfl) (by simp [Value.oneCell']) (by omega) (by simp [maxLen]; omega) (by simp; omega) ?_; intro v' w6 hown' hgr)
      have hg : EGood (w5.alloc (.cells #[.int .i64 x.id, .int .i64 x.inn, .int .i64 x.out, .string x.region, .int .u8 x.kind, .string x.speaker, .slice A5 n' c5] 66)) w.heap.size (EH.of x A5 n' c5) x := ⟨rfl, hnc5, hn24, (HRf.out.ext ((Ext.refl w5).alloc _)).le (by simp; omega)⟩
      have hst := SortLoop.step (HXr.out.trans (HX5.out.trans ((Ext.refl w5).alloc (.cells #[.int .i64 x.id, .int .i64 x.inn, .int .i64 x.out, .string x.region, .int .u8 x.kind, .string x.speaker, .slice A5 n' c5] 66)))) ((HEv.out.ext HX5.out).ext ((Ext.refl w5).alloc (.cells #[.int .i64 x.id, .int .i64 x.inn, .int .i64 x.out, .string x.region, .int .u8 x.kind, .string x.speaker, .slice A5 n' c5] 66))) HXx.out (HOw.out.alloc _) hg hgr hown'
      exact ⟨⟨k + 1, by omega, by go_num, hst.1, hst.2⟩, by simp [intOf]; omega⟩
    · have hkn : k = n := by omega
      subst hkn
      have htk : l.take k = l := List.take_of_length_le (by rw [HEl.out]; omega)
      have hev := HEv.out
      rw [htk] at hev
      obtain ⟨A6, c6, hv, hc6, -, -⟩ := hev.at_
      subst hv
      have HS := Lib.hid (stable_own hev (by omega) HXr.out (Nat.le_refl _))
      clear hev htk HEv
      go_wp2_with fail
      refine HS.out.mono ?_
      rintro en w9 ⟨rfl, ho9, hx9⟩
      go_wp2_with fail
      go_ret
      exact ⟨_, rfl, ho9, hx9⟩
end Go.Proofs.YtagfedbdakmlgaaGreatDoor

/-! InsD -/
namespace Go.Proofs.YtagfedbdakmlgaaGreatDoor
set_option linter.unusedVariables false
set_option linter.unusedSimpArgs false
open Go.RowKit
set_option maxRecDepth 100000 in
set_option maxHeartbeats 8000000 in
theorem DInsert_any (d : Doc) (h : DocH) (e : Ev) (A : Option Addr) (n c : Nat) (w : World) (hE : Env w) (hat : DocAt w d h) (hf : DocFit d) (hrn : h.rn ≤ 9223372036854775807) (hr : h.rn * 56 ≤ 140737488355328) (hn : h.en ≤ 1000000) (hcn : h.cn ≤ 1000000) (he : EvAt w e A n c) (hes : EvSmall e) :
    Calls Tryz.prog 49 #[.agg (d.cells h), .agg (e.cells A n c)] w (DIEPost (d.insX e) w) := by
  have HX : Hid (Ext w (((w.alloc (.cells (d.cells h) 27)).alloc (.cells (e.cells A n c) 66)).alloc (.cells docZero 27))) := (((Ext.refl w).alloc _).alloc _).alloc _
  have HB : Hid (Blk (((w.alloc (.cells (d.cells h) 27)).alloc (.cells (e.cells A n c) 66)).alloc (.cells docZero 27)) w.heap.size 27 (d.cells h)) := ((Blk.new w _ _).alloc _).alloc _
  have HV : Hid (Blk (((w.alloc (.cells (d.cells h) 27)).alloc (.cells (e.cells A n c) 66)).alloc (.cells docZero 27)) (w.heap.size + 1) 66 (e.cells A n c)) := (Blk.new' (by simp)).alloc _
  have HZ : Hid (Blk (((w.alloc (.cells (d.cells h) 27)).alloc (.cells (e.cells A n c) 66)).alloc (.cells docZero 27)) (w.heap.size + 2) 27 docZero) := Blk.new' (by simp)
  have HCk := Lib.hid (fun w' (hx : Ext w w') => DCheck_any d h w' (hE.ext hx) (hat.ext hx) hf hrn hn (by omega))
  have HTk := Lib.hid (fun w' (hx : Ext w w') => DTaken_any d h e.id w' (hat.ext hx) hn hcn)
  have HEc : Hid (∀ (i : Int) w', Ext w w' → Calls Tryz.prog 96 #[.agg #[.int .i64 i, .int .i64 e.inn, .int .i64 e.out, .string e.region, .int .u8 e.kind, .string e.speaker, .slice A n c], .slice h.ra h.rn h.rc] w' fun en w'' => en = .returned (.int .i64 ((e.setId i).err d.regs)) ∧ Ext w' w'') := fun i w' hx => ECheck_any (e.setId i) A n c h.ra h.rn h.rc d.regs w' (hE.ext hx) ((he.ext hx).setId i) (hes.setId i) (hat.regs.ext hx) hrn hf.regs
  have HCl := Lib.hid (fun w' (hx : Ext w w') => DClone_any d h w' (hat.ext hx) hr (by omega) (by omega))
  have HEl := Lib.hid hat.evs.len
  have HEa := Lib.hid he
  clear hat hE hf hrn hr he hes
  obtain ⟨hra, nr, hrc, hea, hen, hec, hca, nc, hcc⟩ := h
  unfold DClPost at HCl
  unfold Doc.cells docZero Ev.cells at *
  dsimp only at *
  go_enter Tryz.func49, Tryz.ntmps49
  go_wp2_with (refine wpList_loadB rfl 27 (.tmp 2) rfl (w.heap.size) 27 _ _ (by exact rfl) (by exact HB.out) Tryz.underlying27 rfl (by exact size_docI) ?_)
  refine (HCk.out _ HX.out).mono ?_
  rintro en w0 ⟨rfl, hx0⟩
  have HX0 := Lib.hid (HX.out.trans hx0)
  have HB0 := Lib.hid (HB.out.ext hx0)
  have HZ0 := Lib.hid (HZ.out.ext hx0)
  have HV0 := Lib.hid (HV.out.ext hx0)
  clear hx0 HX HB HZ HV HCk
  have hcd := fun o => HB0.out.cell o
  have hce := fun o => HV0.out.cell o
  by_cases h0 : d.err = 0
  case neg =>
    have hne1 : (d.err == 0) = false := by simpa using h0
    have hne2 : (d.err != 0) = true := by simpa using h0
    have HN0 := Lib.hid h0
    clear h0
    have HErr : Hid (d.insX e = (Doc.zero, 0, d.err)) := ins_1 HN0.out
    go_wp2_with (first | (refine wpList_storeB rfl 27 (.tmp 4) _ rfl (w.heap.size + 2) 27 _ _ (by exact rfl) (by exact rfl) (by exact HZ0.out) (by exact rfl) (by exact size_docI) (by simp [Value.oneCell']) ?_))
    refine bodyPost_ret (v := .tuple #[.agg docZero, .int .i64 0, .int .i64 (d.err)]) ?_ rfl (diePost_err HErr.out (HX0.out.put (by omega) _ _))
    exact results_B_tmp2 (P := Tryz.prog) Tryz.results49 (g := w.heap.size + 2) rfl (by exact HZ0.out.put _) Tryz.underlying27 rfl size_docI
  have H0 := Lib.hid h0
  have HD0 := Lib.hid (head_ok' (doc_ok h0).1)
  have hl0 := HD0.out.2.2.2.2.1
  have hl1 := HD0.out.2.2.2.2.2
  rw [h0]
  clear h0
  by_cases hi0 : e.id = 0
  · have hid0 := Lib.hid hi0
    have hie : (e.id == 0) = true := by simpa using hi0
    by_cases hmx : 1099511627776 ≤ d.last
    · have HE1 := Lib.hid (e1_9 (d := d) hi0 hmx)
      clear hi0
      have HErr : Hid (d.insX e = (Doc.zero, 0, 9)) := ins_2 H0.out HE1.out (by decide)
      go_wp2_with (first | (refine wpList_storeB rfl 27 (.tmp 4) _ rfl (w.heap.size + 2) 27 _ _ (by exact rfl) (by exact rfl) (by exact HZ0.out) (by exact rfl) (by exact size_docI) (by simp [Value.oneCell']) ?_))
      refine bodyPost_ret (v := .tuple #[.agg docZero, .int .i64 0, .int .i64 (9)]) ?_ rfl (diePost_err HErr.out (HX0.out.put (by omega) _ _))
      exact results_B_tmp2 (P := Tryz.prog) Tryz.results49 (g := w.heap.size + 2) rfl (by exact HZ0.out.put _) Tryz.underlying27 rfl size_docI
    have HE1 := Lib.hid (e1_a (d := d) hi0 hmx)
    clear hi0
    have hs1 := setCell_put HV0.out 0 (.int .i64 (d.last + 1))
    have hf1 := HV0.out.frozen 0
    simp at hs1
    have HV1 := Lib.hid (HV0.out.put #[.int .i64 (d.last + 1), .int .i64 e.inn, .int .i64 e.out, .string e.region, .int .u8 e.kind, .string e.speaker, .slice A n c])
    have HB1 := Lib.hid (HB0.out.put_other (g' := w.heap.size + 1) (t' := 66) (by omega) #[.int .i64 (d.last + 1), .int .i64 e.inn, .int .i64 e.out, .string e.region, .int .u8 e.kind, .string e.speaker, .slice A n c])
    have HZ1 := Lib.hid (HZ0.out.put_other (g' := w.heap.size + 1) (t' := 66) (by omega) #[.int .i64 (d.last + 1), .int .i64 e.inn, .int .i64 e.out, .string e.region, .int .u8 e.kind, .string e.speaker, .slice A n c])
    have HX1 := Lib.hid (HX0.out.put (g := w.heap.size + 1) (by omega) 66 #[.int .i64 (d.last + 1), .int .i64 e.inn, .int .i64 e.out, .string e.region, .int .u8 e.kind, .string e.speaker, .slice A n c])
    go_upto_region 13 with fail
    clear hs1 hf1 hcd hce HX0 HB0 HZ0 HV0 HTk
    obtain ⟨W1, hW1⟩ : ∃ W1, W1 = putB w0 (w.heap.size + 1) 66 #[.int .i64 (d.last + 1), .int .i64 e.inn, .int .i64 e.out, .string e.region, .int .u8 e.kind, .string e.speaker, .slice A n c] := ⟨_, rfl⟩
    rw [← hW1] at HX1 HB1 HZ1 HV1 ⊢
    clear hW1
    have HI : Hid (d.insId e = (d.last + 1)) := by show _ = _; unfold Doc.insId; rw [if_pos hid0.out]
    have HLs : Hid (d.insLast e = (d.last + 1)) := by show _ = _; unfold Doc.insLast; rw [if_pos hid0.out]
    have HEc2 := Lib.hid (HEc.out (d.last + 1))
    clear HEc
    have hcb := fun o => HB1.out.cell o
    go_wp2_with (first | (refine wpList_loadB rfl 66 (.tmp 3) rfl (w.heap.size + 1) 66 _ _ (by exact rfl) (by exact HV1.out) Tryz.underlying66 rfl (by exact size_event) ?_))
    refine (HEc2.out _ HX1.out).mono ?_
    rintro en w6 ⟨rfl, hx6⟩
    have HX6 := Lib.hid (HX1.out.trans hx6)
    have HB6 := Lib.hid (HB1.out.ext hx6)
    have HZ6 := Lib.hid (HZ1.out.ext hx6)
    have HV6 := Lib.hid (HV1.out.ext hx6)
    clear hcb hx6 HX1 HB1 HZ1 HV1 HEc2
    by_cases hee : (e.setId (d.last + 1)).err d.regs = 0
    case neg =>
      have HE3 : Hid ((e.setId (d.insId e)).err d.regs = (e.setId (d.last + 1)).err d.regs) := by show _ = _; rw [HI.out]
      have hne1 : ((e.setId (d.last + 1)).err d.regs == 0) = false := by simpa using hee
      have hne2 : ((e.setId (d.last + 1)).err d.regs != 0) = true := by simpa using hee
      have HNe := Lib.hid hee
      clear hee
      have HErr : Hid (d.insX e = (Doc.zero, 0, (e.setId (d.last + 1)).err d.regs)) := ins_3 H0.out HE1.out HE3.out HNe.out
      go_wp2_with (first | (refine wpList_storeB rfl 27 (.tmp 4) _ rfl (w.heap.size + 2) 27 _ _ (by exact rfl) (by exact rfl) (by exact HZ6.out) (by exact rfl) (by exact size_docI) (by simp [Value.oneCell']) ?_))
      refine bodyPost_ret (v := .tuple #[.agg docZero, .int .i64 0, .int .i64 ((e.setId (d.last + 1)).err d.regs)]) ?_ rfl (diePost_err HErr.out (HX6.out.put (by omega) _ _))
      exact results_B_tmp2 (P := Tryz.prog) Tryz.results49 (g := w.heap.size + 2) rfl (by exact HZ6.out.put _) Tryz.underlying27 rfl size_docI
    have HEe : Hid ((e.setId (d.insId e)).err d.regs = 0) := by show _ = _; rw [HI.out]; exact hee
    rw [hee]
    clear hee
    have hcb := fun o => HB6.out.cell o
    by_cases hlm : 400 ≤ hen
    · have hlz : (400 : Int) ≤ (hen : Int) := by omega
      have HErr : Hid (d.insX e = (Doc.zero, 0, 9)) := ins_4 H0.out HE1.out HEe.out (by have := HEl.out; omega)
      go_wp2_with (first | (refine wpList_storeB rfl 27 (.tmp 4) _ rfl (w.heap.size + 2) 27 _ _ (by exact rfl) (by exact rfl) (by exact HZ6.out) (by exact rfl) (by exact size_docI) (by simp [Value.oneCell']) ?_))
      refine bodyPost_ret (v := .tuple #[.agg docZero, .int .i64 0, .int .i64 (9)]) ?_ rfl (diePost_err HErr.out (HX6.out.put (by omega) _ _))
      exact results_B_tmp2 (P := Tryz.prog) Tryz.results49 (g := w.heap.size + 2) rfl (by exact HZ6.out.put _) Tryz.underlying27 rfl size_docI
    have hlz : ¬ (400 : Int) ≤ (hen : Int) := by omega
    have HOk : Hid (d.insX e = (d.insD e, d.insId e, 0)) := ins_5 H0.out HE1.out HEe.out (by have := HEl.out; omega)
    go_wp2_with (first | (refine wpList_loadB rfl 27 (.tmp 2) rfl (w.heap.size) 27 _ _ (by exact rfl) (by exact HB6.out) Tryz.underlying27 rfl (by exact size_docI) ?_))
    clear hcb
    refine (HCl.out _ HX6.out).mono ?_
    rintro en w7 ⟨⟨ra, rn, rc, ea, en', ec, ca, cn, cc⟩, rfl, ho7, hx7⟩
    dsimp only
    have hsz6 := HX6.out.size
    have HO7 := Lib.hid ho7
    have hz6l := HZ6.out.lt
    have hen7 : en' = hen := by have h1 := ho7.evs.len; have h2 := HEl.out; dsimp only at h1; omega
    subst hen7
    have HX7 := Lib.hid (HX6.out.trans hx7)
    have hs67 := hx7.size
    have HB7 := Lib.hid (HB6.out.ext hx7)
    have HZ7 := Lib.hid (HZ6.out.ext hx7)
    have HV7 := Lib.hid (HV6.out.ext hx7)
    clear ho7 hx7 HX6 HB6 HZ6 HV6
    have HB8 := Lib.hid (HB7.out.put #[.string d.title, .string d.lang, .int .u8 d.rate, .bool d.drop, .int .i64 d.last, .slice ra rn rc, .slice ea en' ec, .slice ca cn cc])
    have HZ8 := Lib.hid (HZ7.out.put_other (g' := w.heap.size) (t' := 27) (by omega) #[.string d.title, .string d.lang, .int .u8 d.rate, .bool d.drop, .int .i64 d.last, .slice ra rn rc, .slice ea en' ec, .slice ca cn cc])
    have HV8 := Lib.hid (HV7.out.put_other (g' := w.heap.size) (t' := 27) (by omega) #[.string d.title, .string d.lang, .int .u8 d.rate, .bool d.drop, .int .i64 d.last, .slice ra rn rc, .slice ea en' ec, .slice ca cn cc])
    have HX8 := Lib.hid (HX7.out.put (g := w.heap.size) (Nat.le_refl _) 27 #[.string d.title, .string d.lang, .int .u8 d.rate, .bool d.drop, .int .i64 d.last, .slice ra rn rc, .slice ea en' ec, .slice ca cn cc])
    have HO8 := Lib.hid (HO7.out.put HB7.out #[.string d.title, .string d.lang, .int .u8 d.rate, .bool d.drop, .int .i64 d.last, .slice ra rn rc, .slice ea en' ec, .slice ca cn cc])
    have hs8 := fun u => setCell_put HB8.out 4 u
    have hc8 := fun o => HB8.out.cell o
    have hf8 := HB8.out.frozen 4
    simp at hs8
    have HB9 := Lib.hid (HB8.out.put #[.string d.title, .string d.lang, .int .u8 d.rate, .bool d.drop, .int .i64 (d.last + 1), .slice ra rn rc, .slice ea en' ec, .slice ca cn cc])
    have HZ9 := Lib.hid (HZ8.out.put_other (g' := w.heap.size) (t' := 27) (by omega) #[.string d.title, .string d.lang, .int .u8 d.rate, .bool d.drop, .int .i64 (d.last + 1), .slice ra rn rc, .slice ea en' ec, .slice ca cn cc])
    have HV9 := Lib.hid (HV8.out.put_other (g' := w.heap.size) (t' := 27) (by omega) #[.string d.title, .string d.lang, .int .u8 d.rate, .bool d.drop, .int .i64 (d.last + 1), .slice ra rn rc, .slice ea en' ec, .slice ca cn cc])
    have HX9 := Lib.hid (HX8.out.put (g := w.heap.size) (Nat.le_refl _) 27 #[.string d.title, .string d.lang, .int .u8 d.rate, .bool d.drop, .int .i64 (d.last + 1), .slice ra rn rc, .slice ea en' ec, .slice ca cn cc])
    have HO9 := Lib.hid (HO8.out.put HB8.out #[.string d.title, .string d.lang, .int .u8 d.rate, .bool d.drop, .int .i64 (d.last + 1), .slice ra rn rc, .slice ea en' ec, .slice ca cn cc])
    go_upto_region 21 with (first | (refine wpList_storeB rfl 27 (.tmp 2) _ rfl (w.heap.size) 27 _ _ (by exact rfl) (by exact rfl) (by exact HB7.out) (by exact rfl) (by exact size_docI) (by simp [Value.oneCell']) ?_))
    clear hs8 hc8 hf8
    obtain ⟨W, hW⟩ : ∃ W, W = putB (putB w7 w.heap.size 27 #[.string d.title, .string d.lang, .int .u8 d.rate, .bool d.drop, .int .i64 d.last, .slice ra rn rc, .slice ea en' ec, .slice ca cn cc]) w.heap.size 27 #[.string d.title, .string d.lang, .int .u8 d.rate, .bool d.drop, .int .i64 (d.last + 1), .slice ra rn rc, .slice ea en' ec, .slice ca cn cc] := ⟨_, rfl⟩
    have hWs : w6.heap.size ≤ W.heap.size := by rw [hW]; simp [putB]; exact hs67
    rw [← hW] at HB9 HZ9 HV9 HX9 HO9 ⊢
    clear hW HB8 HZ8 HV8 HX8 HO8 HB7 HZ7 HV7 HX7 HO7
    obtain ⟨hs, hown, hh, hel, hgd⟩ := HO9.out.evs
    dsimp only at hown hh hel hgd
    have HOw := Lib.hid hown
    have HGd := Lib.hid hgd
    have HHl := Lib.hid hh
    have HEvl := Lib.hid hel
    have hc9 := fun o => HB9.out.cell o
    clear hown hgd hh hel
    have hszW := HX9.out.size
    go_wp2_with (first | (refine wpList_loadB rfl 66 (.tmp 3) rfl (w.heap.size + 1) 66 _ _ (by exact rfl) (by exact HV9.out) Tryz.underlying66 rfl (by exact size_event) ?_) | (at_builtin; refine wpList_append1 rfl (.tmp 72) (.tmp 74) 24 rfl info_evtI Tryz.underlying24 rfl (by decide) (HOw.out.alloc _) (by exact rfl) W.heap.size _ (by exact rfl) (by exact Blk.new' rfl) (by exact rfl) (by simp [Value.oneCell']) (by omega) (by simp [maxLen]; omega) (by simp; omega) ?_; intro v5 w5 hown5 hgr5; obtain ⟨A5, c5, rfl⟩ := own_isSlice hown5))
    clear hc9
    have hown4 := HOw.out.alloc (.cells #[.int .i64 (d.last + 1), .int .i64 e.inn, .int .i64 e.out, .string e.region, .int .u8 e.kind, .string e.speaker, .slice A n c] 66)
    have hty := own_typed hown4
    have hlt := own_lt hown4
    have HX10 := Lib.hid ((HX9.out.alloc (.cells #[.int .i64 (d.last + 1), .int .i64 e.inn, .int .i64 e.out, .string e.region, .int .u8 e.kind, .string e.speaker, .slice A n c] 66)).grown hgr5 (fun q hq => by have := hlt q hq; omega))
    have HB10 := Lib.hid ((HB9.out.alloc (.cells #[.int .i64 (d.last + 1), .int .i64 e.inn, .int .i64 e.out, .string e.region, .int .u8 e.kind, .string e.speaker, .slice A n c] 66)).kb (KB.grown hgr5 hty (by decide)))
    have HZ10 := Lib.hid ((HZ9.out.alloc (.cells #[.int .i64 (d.last + 1), .int .i64 e.inn, .int .i64 e.out, .string e.region, .int .u8 e.kind, .string e.speaker, .slice A n c] 66)).kb (KB.grown hgr5 hty (by decide)))
    have HV10 : Hid (Blk w5 (w.heap.size + 1) 66 #[.int .i64 (d.last + 1), .int .i64 e.inn, .int .i64 e.out, .string e.region, .int .u8 e.kind, .string e.speaker, .slice A n c]) := by
      show Blk _ _ _ _
      have hold := HV9.out.alloc (.cells #[.int .i64 (d.last + 1), .int .i64 e.inn, .int .i64 e.out, .string e.region, .int .u8 e.kind, .string e.speaker, .slice A n c] 66)
      unfold Blk at hold ⊢
      rw [hgr5.block _ (Array.getElem?_eq_some_iff.1 hold).1 (fun hq => by have := hlt _ hq.symm; omega)]
      exact hold
    have hown6 : w5.ownsRow w6.heap.size 66 7 (.slice A5 (en' + 1) c5) (en' + 1) ((hs ++ [EH.of (e.setId (d.last + 1)) A n c]).flatMap EH.vals) := by
      rw [List.flatMap_append]
      simpa [EH.vals, EH.of, Ev.setId] using hown5
    obtain ⟨A6, c6, hv6, hc6, hm6, hsl6, -⟩ := own_sl (f := EH.vals) (size := 7) EH.len (by rw [List.length_append, HHl.out]; rfl) hown6
    cases hv6
    have k1 : KB 87 (W.alloc (.cells #[.int .i64 (d.last + 1), .int .i64 e.inn, .int .i64 e.out, .string e.region, .int .u8 e.kind, .string e.speaker, .slice A n c] 66)) w5 := KB.grown hgr5 hty (by decide)
    have k2 : KB 84 (W.alloc (.cells #[.int .i64 (d.last + 1), .int .i64 e.inn, .int .i64 e.out, .string e.region, .int .u8 e.kind, .string e.speaker, .slice A n c] 66)) w5 := KB.grown hgr5 hty (by decide)
    have hatS : EvsAt w5 A5 (en' + 1) (d.evs ++ [e.setId (d.last + 1)]) := by
      refine evsAt_heads hsl6 (by rw [List.length_append, HEvl.out]; rfl) (fun i h9 e9 hh9 he9 => ?_)
      by_cases hi : i < en'
      · rw [List.getElem?_append_left (by rw [HHl.out]; exact hi)] at hh9
        rw [List.getElem?_append_left (by rw [HEvl.out]; exact hi)] at he9
        have hg := ((HGd.out i h9 e9 hh9 he9).ext ((Ext.refl W).alloc (.cells #[.int .i64 (d.last + 1), .int .i64 e.inn, .int .i64 e.out, .string e.region, .int .u8 e.kind, .string e.speaker, .slice A n c] 66))).kb k1 k2
        exact ⟨hg.1, hg.at_⟩
      · have hil := (List.getElem?_eq_some_iff.1 hh9).1
        rw [List.length_append, HHl.out] at hil
        simp only [List.length_singleton] at hil
        obtain rfl : i = en' := by omega
        rw [List.getElem?_append_right (by rw [HHl.out]; exact Nat.le_refl _), HHl.out, Nat.sub_self] at hh9
        rw [List.getElem?_append_right (by rw [HEvl.out]; exact Nat.le_refl _), HEvl.out, Nat.sub_self] at he9
        simp only [List.getElem?_cons_zero, Option.some.injEq] at hh9 he9
        subst hh9 he9
        exact ⟨rfl, ((HEa.out.ext HX10.out).setId (d.last + 1))⟩
    have HSo := Lib.hid (DSort_any (d.evs ++ [e.setId (d.last + 1)]) A5 (en' + 1) c5 w5 hatS (by omega))
    have HRg9 := Lib.hid (own_kb (own_ext HO9.out.regs ((Ext.refl W).alloc (.cells #[.int .i64 (d.last + 1), .int .i64 e.inn, .int .i64 e.out, .string e.region, .int .u8 e.kind, .string e.speaker, .slice A n c] 66))) (KB.grown hgr5 hty (by decide)))
    have HCm9 := Lib.hid (own_kb (own_ext HO9.out.coms ((Ext.refl W).alloc (.cells #[.int .i64 (d.last + 1), .int .i64 e.inn, .int .i64 e.out, .string e.region, .int .u8 e.kind, .string e.speaker, .slice A n c] 66))) (KB.grown hgr5 hty (by decide)))
    have HRl9 := Lib.hid HO9.out.rlen
    have HCl9 := Lib.hid HO9.out.clen
    have hsz10 := HX10.out.size
    clear hown4 hty hlt hown5 hown6 hgr5 hsl6 k1 k2 hatS HB9 HZ9 HV9 HX9 HO9 HOw HGd HHl HEvl
    refine HSo.out.mono ?_
    rintro en w8 ⟨v8, rfl, hev8, hx8⟩
    obtain ⟨A8, c8, hv8, -, -, -⟩ := hev8.at_
    subst hv8
    have HX11 := Lib.hid (HX10.out.trans hx8)
    have HB11 := Lib.hid (HB10.out.ext hx8)
    have HZ11 := Lib.hid (HZ10.out.ext hx8)
    have HV11 := Lib.hid (HV10.out.ext hx8)
    have HE11 := Lib.hid hev8
    have HRg11 := Lib.hid (own_ext HRg9.out hx8)
    have HCm11 := Lib.hid (own_ext HCm9.out hx8)
    have hs11 := fun u => setCell_put HB11.out 6 u
    have hc11 := HB11.out.cell 6
    have hf11 := HB11.out.frozen 6
    simp at hs11 hc11
    clear hx8 hev8 HX10 HB10 HZ10 HV10 HRg9 HCm9 HSo
    go_upto_region 22 with fail
    clear hs11 hc11 hf11
    obtain ⟨W9, hW9⟩ : ∃ W9, W9 = putB w8 w.heap.size 27 #[.string d.title, .string d.lang, .int .u8 d.rate, .bool d.drop, .int .i64 (d.last + 1), .slice ra rn rc, .slice A8 (en' + 1) c8, .slice ca cn cc] := ⟨_, rfl⟩
    rw [← hW9]
    have HB12 : Hid (Blk W9 w.heap.size 27 #[.string d.title, .string d.lang, .int .u8 d.rate, .bool d.drop, .int .i64 (d.last + 1), .slice ra rn rc, .slice A8 (en' + 1) c8, .slice ca cn cc]) := by show Blk _ _ _ _; rw [hW9]; exact HB11.out.put _
    have HZ12 : Hid (Blk W9 (w.heap.size + 2) 27 #[.string ⟨#[]⟩, .string ⟨#[]⟩, .int .u8 0, .bool false, .int .i64 0, .slice none 0 0, .slice none 0 0, .slice none 0 0]) := by show Blk _ _ _ _; rw [hW9]; exact HZ11.out.put_other (by omega) _
    have HV12 : Hid (Blk W9 (w.heap.size + 1) 66 #[.int .i64 (d.last + 1), .int .i64 e.inn, .int .i64 e.out, .string e.region, .int .u8 e.kind, .string e.speaker, .slice A n c]) := by show Blk _ _ _ _; rw [hW9]; exact HV11.out.put_other (by omega) _
    have HX12 : Hid (Ext w W9) := by show Ext _ _; rw [hW9]; exact HX11.out.put (Nat.le_refl _) _ _
    have HO12 : Hid (DocOwn W9 w.heap.size (d.insD e) ⟨ra, rn, rc, A8, en' + 1, c8, ca, cn, cc⟩) := by
      show DocOwn _ _ _ _
      rw [hW9]
      refine DocOwn.mk (own_kb (own_le HRg11.out hsz6) (KB.put HB11.out (by decide))) HRl9.out ?_ (own_kb (own_le HCm11.out hsz6) (KB.put HB11.out (by decide))) HCl9.out
      show EvsOwn _ _ _ _ (srtE (d.evs ++ [e.setId (d.insId e)]))
      rw [HI.out]
      exact (HE11.out.kb (KB.put HB11.out (by decide)) (KB.put HB11.out (by decide)) (KB.put HB11.out (by decide))).le (by omega)
    have hne1 : w.heap.size ≠ w.heap.size + 2 := by omega
    have hne2 : w.heap.size + 1 ≠ w.heap.size + 2 := by omega
    clear hW9 HB11 HZ11 HV11 HX11 HE11 HRg11 HCm11
    refine wp_region_links [some 78, some 79, some 80, none, some 5, some 6] [[], [], [1], [0, 0], [2, 3, 0, 1, 2, 3], [4, 0, 1, 2, 3, 4]] [3] [.agg #[.string d.title, .string d.lang, .int .u8 d.rate, .bool d.drop, .int .i64 (d.last + 1), .slice ra rn rc, .slice A8 (en' + 1) c8, .slice ca cn cc], .pointer (some ⟨w.heap.size + 1, 0, none⟩), .int .i64 (d.last + 1), undef, .int .i64 (d.last + 1), .int .i64 0] (RdJ (w.heap.size + 2) #[.string d.title, .string d.lang, .int .u8 d.rate, .bool d.drop, .int .i64 (d.last + 1), .slice ra rn rc, .slice A8 (en' + 1) c8, .slice ca cn cc] W9) (by kernel_rfl) (by kernel_rfl) (by kernel_rfl) (by kernel_rfl) (by kernel_rfl) (by kernel_rfl) (by kernel_rfl) (by decide) ?_ ?_ ?_ ?_
    · exact RdJ.start _ _ W9
    · intro i o ho hc a w' us K' hJ hF hlim hk
      match i, ho with
      | 0, ho =>
        simp only [List.getElem?_toArray, List.getElem?_cons_zero, List.getElem?_cons_succ, Option.some.injEq] at ho
        subst ho
        have e2 := hF.old 2 (.pointer (some ⟨w.heap.size, 0, none⟩)) rfl rfl
        exact wp_loadBk 27 (.tmp 2) rfl _ 27 _ _ e2 (hJ.blk HB12.out hne1) Tryz.underlying27 rfl (by exact size_docI) hk
      | 1, ho =>
        simp only [List.getElem?_toArray, List.getElem?_cons_zero, List.getElem?_cons_succ, Option.some.injEq] at ho
        subst ho
        have e3 := hF.old 3 (.pointer (some ⟨w.heap.size + 1, 0, none⟩)) rfl rfl
        simp only [Act.eval] at e3
        clear hF hlim hJ
        go_simp
        exact hk
      | 2, ho =>
        simp only [List.getElem?_toArray, List.getElem?_cons_zero, List.getElem?_cons_succ, Option.some.injEq] at ho
        subst ho
        have e79 := hF.pure 1 79 (.pointer (some ⟨w.heap.size + 1, 0, none⟩)) rfl rfl rfl rfl
        have hcl : w'.cell? ⟨w.heap.size + 1, 0, none⟩ = some (.int .i64 (d.last + 1)) := (hJ.blk HV12.out hne2).cell 0
        simp only [Act.eval] at e79
        clear hF hlim hJ
        go_simp
        exact hk
      | 3, ho => simp at hc
      | 4, ho =>
        simp only [List.getElem?_toArray, List.getElem?_cons_zero, List.getElem?_cons_succ, Option.some.injEq] at ho
        subst ho
        have e80 := hF.pure 2 80 (.int .i64 (d.last + 1)) rfl rfl rfl rfl
        simp only [Act.eval] at e80
        clear hF hlim hJ
        go_simp
        exact hk
      | 5, ho =>
        simp only [List.getElem?_toArray, List.getElem?_cons_zero, List.getElem?_cons_succ, Option.some.injEq] at ho
        subst ho
        clear hF hlim hJ
        go_simp
        exact hk
      | i + 6, ho => simp at ho
    · intro p c' o hp ho a w' us K' hl hJ hF hk
      match p, hp with
      | 0, hp =>
        obtain rfl : 3 = c' := by simpa using hp
        simp only [List.getElem?_toArray, List.getElem?_cons_zero, List.getElem?_cons_succ, Option.some.injEq] at ho
        subst ho
        obtain rfl : us = [] := List.eq_nil_of_length_eq_zero hl
        have e4 := hF.old 4 (.pointer (some ⟨w.heap.size + 2, 0, none⟩)) rfl rfl
        have e78 := hF.pure 0 78 (.agg #[.string d.title, .string d.lang, .int .u8 d.rate, .bool d.drop, .int .i64 (d.last + 1), .slice ra rn rc, .slice A8 (en' + 1) c8, .slice ca cn cc]) rfl rfl rfl rfl
        exact wp_storeB 27 (.tmp 4) (.tmp 78) rfl (w.heap.size + 2) 27 _ _ e4 e78 (by exact size_docI) (by simp [Value.oneCell']) (hJ.blk_nil HZ12.out) rfl (hk undef _ hJ.store)
      | p + 1, hp => simp at hp
    intro us w10 hl hJ
    obtain ⟨u0, rfl⟩ := list_1 hl
    first | (rename_i hK; refine hK _ _ ?_; clear hK) | (rename_i hK hK_1; refine hK _ _ ?_; clear hK) | (rename_i hK hK_1 hK_2; refine hK _ _ ?_; clear hK) | (rename_i hK hK_1 hK_2 hK_3; refine hK _ _ ?_; clear hK)
    generalize hL : frameL _ _ _ _ = L
    obtain rfl : L = [(78, .agg #[.string d.title, .string d.lang, .int .u8 d.rate, .bool d.drop, .int .i64 (d.last + 1), .slice ra rn rc, .slice A8 (en' + 1) c8, .slice ca cn cc]), (79, .pointer (some ⟨w.heap.size + 1, 0, none⟩)), (80, .int .i64 (d.last + 1)), (5, .int .i64 (d.last + 1)), (6, .int .i64 0)] := hL.symm.trans (by kernel_rfl)
    clear hL hl
    simp only [Act.put, List.foldl_cons, List.foldl_nil, List.setIfInBounds_toArray, List.set_cons_zero, List.set_cons_succ]
    obtain ⟨w11, hx11, rfl⟩ := hJ.one
    clear hJ
    go_wp2_with fail
    refine bodyPost_ret (v := .tuple #[.agg #[.string d.title, .string d.lang, .int .u8 d.rate, .bool d.drop, .int .i64 (d.last + 1), .slice ra rn rc, .slice A8 (en' + 1) c8, .slice ca cn cc], .int .i64 (d.last + 1), .int .i64 0]) ?_ rfl ⟨⟨ra, rn, rc, A8, en' + 1, c8, ca, cn, cc⟩, ?_, ?_, ?_⟩
    · exact results_B_tmp2 (P := Tryz.prog) Tryz.results49 (g := w.heap.size + 2) rfl (by exact (HZ12.out.ext hx11).put _) Tryz.underlying27 rfl size_docI
    · rw [HOk.out]; show _ = Ending.returned (.tuple #[.agg ((d.insD e).cells _), .int .i64 (d.insId e), .int .i64 0]); rw [HI.out]; unfold Doc.cells Doc.insD; rw [HLs.out]
    · rw [HOk.out]; exact (HO12.out.ext hx11).put (HZ12.out.ext hx11) _
    · exact (HX12.out.trans hx11).put (by omega) _ _
  · have hid0 := Lib.hid hi0
    have hie : (e.id == 0) = false := by simpa using hi0
    by_cases hlo : e.id < 1
    · have HE1 := Lib.hid (e1_2 (d := d) hi0 (.inl hlo))
      clear hi0
      have HErr : Hid (d.insX e = (Doc.zero, 0, 2)) := ins_2 H0.out HE1.out (by decide)
      go_wp2_with (first | (refine wpList_storeB rfl 27 (.tmp 4) _ rfl (w.heap.size + 2) 27 _ _ (by exact rfl) (by exact rfl) (by exact HZ0.out) (by exact rfl) (by exact size_docI) (by simp [Value.oneCell']) ?_))
      refine bodyPost_ret (v := .tuple #[.agg docZero, .int .i64 0, .int .i64 (2)]) ?_ rfl (diePost_err HErr.out (HX0.out.put (by omega) _ _))
      exact results_B_tmp2 (P := Tryz.prog) Tryz.results49 (g := w.heap.size + 2) rfl (by exact HZ0.out.put _) Tryz.underlying27 rfl size_docI
    by_cases hhi : d.last < e.id
    · have HE1 := Lib.hid (e1_2 (d := d) hi0 (.inr hhi))
      clear hi0
      have HErr : Hid (d.insX e = (Doc.zero, 0, 2)) := ins_2 H0.out HE1.out (by decide)
      go_wp2_with (first | (refine wpList_storeB rfl 27 (.tmp 4) _ rfl (w.heap.size + 2) 27 _ _ (by exact rfl) (by exact rfl) (by exact HZ0.out) (by exact rfl) (by exact size_docI) (by simp [Value.oneCell']) ?_))
      refine bodyPost_ret (v := .tuple #[.agg docZero, .int .i64 0, .int .i64 (2)]) ?_ rfl (diePost_err HErr.out (HX0.out.put (by omega) _ _))
      exact results_B_tmp2 (P := Tryz.prog) Tryz.results49 (g := w.heap.size + 2) rfl (by exact HZ0.out.put _) Tryz.underlying27 rfl size_docI
    have HRg : Hid (¬ (e.id < 1 ∨ d.last < e.id)) := by show ¬ _; omega
    clear hi0
    go_wp2_with (first | (refine wpList_loadB rfl 27 (.tmp 2) rfl (w.heap.size) 27 _ _ (by exact rfl) (by exact HB0.out) Tryz.underlying27 rfl (by exact size_docI) ?_))
    clear hcd hce
    refine (HTk.out _ HX0.out).mono ?_
    rintro en w1 ⟨rfl, hx1⟩
    have HX1 := Lib.hid (HX0.out.trans hx1)
    have HB1 := Lib.hid (HB0.out.ext hx1)
    have HZ1 := Lib.hid (HZ0.out.ext hx1)
    have HV1 := Lib.hid (HV0.out.ext hx1)
    clear hx1 HX0 HB0 HZ0 HV0 HTk
    cases htk : d.takenB e.id
    case true =>
      have HE1 := Lib.hid (e1_7 hid0.out HRg.out htk)
      clear htk
      have HErr : Hid (d.insX e = (Doc.zero, 0, 7)) := ins_2 H0.out HE1.out (by decide)
      go_wp2_with (first | (refine wpList_storeB rfl 27 (.tmp 4) _ rfl (w.heap.size + 2) 27 _ _ (by exact rfl) (by exact rfl) (by exact HZ1.out) (by exact rfl) (by exact size_docI) (by simp [Value.oneCell']) ?_))
      refine bodyPost_ret (v := .tuple #[.agg docZero, .int .i64 0, .int .i64 (7)]) ?_ rfl (diePost_err HErr.out (HX1.out.put (by omega) _ _))
      exact results_B_tmp2 (P := Tryz.prog) Tryz.results49 (g := w.heap.size + 2) rfl (by exact HZ1.out.put _) Tryz.underlying27 rfl size_docI
    have HE1 := Lib.hid (e1_b hid0.out HRg.out htk)
    clear htk
    have HI : Hid (d.insId e = e.id) := by show _ = _; unfold Doc.insId; rw [if_neg hid0.out]
    have HLs : Hid (d.insLast e = d.last) := by show _ = _; unfold Doc.insLast; rw [if_neg hid0.out]
    have HEc2 := Lib.hid (HEc.out e.id)
    clear HEc
    have hcb := fun o => HB1.out.cell o
    go_wp2_with (first | (refine wpList_loadB rfl 66 (.tmp 3) rfl (w.heap.size + 1) 66 _ _ (by exact rfl) (by exact HV1.out) Tryz.underlying66 rfl (by exact size_event) ?_))
    refine (HEc2.out _ HX1.out).mono ?_
    rintro en w6 ⟨rfl, hx6⟩
    have HX6 := Lib.hid (HX1.out.trans hx6)
    have HB6 := Lib.hid (HB1.out.ext hx6)
    have HZ6 := Lib.hid (HZ1.out.ext hx6)
    have HV6 := Lib.hid (HV1.out.ext hx6)
    clear hcb hx6 HX1 HB1 HZ1 HV1 HEc2
    by_cases hee : (e.setId e.id).err d.regs = 0
    case neg =>
      have HE3 : Hid ((e.setId (d.insId e)).err d.regs = (e.setId e.id).err d.regs) := by show _ = _; rw [HI.out]
      have hne1 : ((e.setId e.id).err d.regs == 0) = false := by simpa using hee
      have hne2 : ((e.setId e.id).err d.regs != 0) = true := by simpa using hee
      have HNe := Lib.hid hee
      clear hee
      have HErr : Hid (d.insX e = (Doc.zero, 0, (e.setId e.id).err d.regs)) := ins_3 H0.out HE1.out HE3.out HNe.out
      go_wp2_with (first | (refine wpList_storeB rfl 27 (.tmp 4) _ rfl (w.heap.size + 2) 27 _ _ (by exact rfl) (by exact rfl) (by exact HZ6.out) (by exact rfl) (by exact size_docI) (by simp [Value.oneCell']) ?_))
      refine bodyPost_ret (v := .tuple #[.agg docZero, .int .i64 0, .int .i64 ((e.setId e.id).err d.regs)]) ?_ rfl (diePost_err HErr.out (HX6.out.put (by omega) _ _))
      exact results_B_tmp2 (P := Tryz.prog) Tryz.results49 (g := w.heap.size + 2) rfl (by exact HZ6.out.put _) Tryz.underlying27 rfl size_docI
    have HEe : Hid ((e.setId (d.insId e)).err d.regs = 0) := by show _ = _; rw [HI.out]; exact hee
    rw [hee]
    clear hee
    have hcb := fun o => HB6.out.cell o
    by_cases hlm : 400 ≤ hen
    · have hlz : (400 : Int) ≤ (hen : Int) := by omega
      have HErr : Hid (d.insX e = (Doc.zero, 0, 9)) := ins_4 H0.out HE1.out HEe.out (by have := HEl.out; omega)
      go_wp2_with (first | (refine wpList_storeB rfl 27 (.tmp 4) _ rfl (w.heap.size + 2) 27 _ _ (by exact rfl) (by exact rfl) (by exact HZ6.out) (by exact rfl) (by exact size_docI) (by simp [Value.oneCell']) ?_))
      refine bodyPost_ret (v := .tuple #[.agg docZero, .int .i64 0, .int .i64 (9)]) ?_ rfl (diePost_err HErr.out (HX6.out.put (by omega) _ _))
      exact results_B_tmp2 (P := Tryz.prog) Tryz.results49 (g := w.heap.size + 2) rfl (by exact HZ6.out.put _) Tryz.underlying27 rfl size_docI
    have hlz : ¬ (400 : Int) ≤ (hen : Int) := by omega
    have HOk : Hid (d.insX e = (d.insD e, d.insId e, 0)) := ins_5 H0.out HE1.out HEe.out (by have := HEl.out; omega)
    go_wp2_with (first | (refine wpList_loadB rfl 27 (.tmp 2) rfl (w.heap.size) 27 _ _ (by exact rfl) (by exact HB6.out) Tryz.underlying27 rfl (by exact size_docI) ?_))
    clear hcb
    refine (HCl.out _ HX6.out).mono ?_
    rintro en w7 ⟨⟨ra, rn, rc, ea, en', ec, ca, cn, cc⟩, rfl, ho7, hx7⟩
    dsimp only
    have hsz6 := HX6.out.size
    have HO7 := Lib.hid ho7
    have hz6l := HZ6.out.lt
    have hen7 : en' = hen := by have h1 := ho7.evs.len; have h2 := HEl.out; dsimp only at h1; omega
    subst hen7
    have HX7 := Lib.hid (HX6.out.trans hx7)
    have hs67 := hx7.size
    have HB7 := Lib.hid (HB6.out.ext hx7)
    have HZ7 := Lib.hid (HZ6.out.ext hx7)
    have HV7 := Lib.hid (HV6.out.ext hx7)
    clear ho7 hx7 HX6 HB6 HZ6 HV6
    have HB8 := Lib.hid (HB7.out.put #[.string d.title, .string d.lang, .int .u8 d.rate, .bool d.drop, .int .i64 d.last, .slice ra rn rc, .slice ea en' ec, .slice ca cn cc])
    have HZ8 := Lib.hid (HZ7.out.put_other (g' := w.heap.size) (t' := 27) (by omega) #[.string d.title, .string d.lang, .int .u8 d.rate, .bool d.drop, .int .i64 d.last, .slice ra rn rc, .slice ea en' ec, .slice ca cn cc])
    have HV8 := Lib.hid (HV7.out.put_other (g' := w.heap.size) (t' := 27) (by omega) #[.string d.title, .string d.lang, .int .u8 d.rate, .bool d.drop, .int .i64 d.last, .slice ra rn rc, .slice ea en' ec, .slice ca cn cc])
    have HX8 := Lib.hid (HX7.out.put (g := w.heap.size) (Nat.le_refl _) 27 #[.string d.title, .string d.lang, .int .u8 d.rate, .bool d.drop, .int .i64 d.last, .slice ra rn rc, .slice ea en' ec, .slice ca cn cc])
    have HO8 := Lib.hid (HO7.out.put HB7.out #[.string d.title, .string d.lang, .int .u8 d.rate, .bool d.drop, .int .i64 d.last, .slice ra rn rc, .slice ea en' ec, .slice ca cn cc])
    have hs8 := fun u => setCell_put HB8.out 4 u
    have hc8 := fun o => HB8.out.cell o
    have hf8 := HB8.out.frozen 4
    simp at hs8
    have HB9 := Lib.hid (HB8.out.put #[.string d.title, .string d.lang, .int .u8 d.rate, .bool d.drop, .int .i64 d.last, .slice ra rn rc, .slice ea en' ec, .slice ca cn cc])
    have HZ9 := Lib.hid (HZ8.out.put_other (g' := w.heap.size) (t' := 27) (by omega) #[.string d.title, .string d.lang, .int .u8 d.rate, .bool d.drop, .int .i64 d.last, .slice ra rn rc, .slice ea en' ec, .slice ca cn cc])
    have HV9 := Lib.hid (HV8.out.put_other (g' := w.heap.size) (t' := 27) (by omega) #[.string d.title, .string d.lang, .int .u8 d.rate, .bool d.drop, .int .i64 d.last, .slice ra rn rc, .slice ea en' ec, .slice ca cn cc])
    have HX9 := Lib.hid (HX8.out.put (g := w.heap.size) (Nat.le_refl _) 27 #[.string d.title, .string d.lang, .int .u8 d.rate, .bool d.drop, .int .i64 d.last, .slice ra rn rc, .slice ea en' ec, .slice ca cn cc])
    have HO9 := Lib.hid (HO8.out.put HB8.out #[.string d.title, .string d.lang, .int .u8 d.rate, .bool d.drop, .int .i64 d.last, .slice ra rn rc, .slice ea en' ec, .slice ca cn cc])
    go_upto_region 21 with (first | (refine wpList_storeB rfl 27 (.tmp 2) _ rfl (w.heap.size) 27 _ _ (by exact rfl) (by exact rfl) (by exact HB7.out) (by exact rfl) (by exact size_docI) (by simp [Value.oneCell']) ?_))
    clear hs8 hc8 hf8
    obtain ⟨W, hW⟩ : ∃ W, W = putB (putB w7 w.heap.size 27 #[.string d.title, .string d.lang, .int .u8 d.rate, .bool d.drop, .int .i64 d.last, .slice ra rn rc, .slice ea en' ec, .slice ca cn cc]) w.heap.size 27 #[.string d.title, .string d.lang, .int .u8 d.rate, .bool d.drop, .int .i64 d.last, .slice ra rn rc, .slice ea en' ec, .slice ca cn cc] := ⟨_, rfl⟩
    have hWs : w6.heap.size ≤ W.heap.size := by rw [hW]; simp [putB]; exact hs67
    rw [← hW] at HB9 HZ9 HV9 HX9 HO9 ⊢
    clear hW HB8 HZ8 HV8 HX8 HO8 HB7 HZ7 HV7 HX7 HO7
    obtain ⟨hs, hown, hh, hel, hgd⟩ := HO9.out.evs
    dsimp only at hown hh hel hgd
    have HOw := Lib.hid hown
    have HGd := Lib.hid hgd
    have HHl := Lib.hid hh
    have HEvl := Lib.hid hel
    have hc9 := fun o => HB9.out.cell o
    clear hown hgd hh hel
    have hszW := HX9.out.size
    go_wp2_with (first | (refine wpList_loadB rfl 66 (.tmp 3) rfl (w.heap.size + 1) 66 _ _ (by exact rfl) (by exact HV9.out) Tryz.underlying66 rfl (by exact size_event) ?_) | (at_builtin; refine wpList_append1 rfl (.tmp 72) (.tmp 74) 24 rfl info_evtI Tryz.underlying24 rfl (by decide) (HOw.out.alloc _) (by exact rfl) W.heap.size _ (by exact rfl) (by exact Blk.new' rfl) (by exact rfl) (by simp [Value.oneCell']) (by omega) (by simp [maxLen]; omega) (by simp; omega) ?_; intro v5 w5 hown5 hgr5; obtain ⟨A5, c5, rfl⟩ := own_isSlice hown5))
    clear hc9
    have hown4 := HOw.out.alloc (.cells #[.int .i64 e.id, .int .i64 e.inn, .int .i64 e.out, .string e.region, .int .u8 e.kind, .string e.speaker, .slice A n c] 66)
    have hty := own_typed hown4
    have hlt := own_lt hown4
    have HX10 := Lib.hid ((HX9.out.alloc (.cells #[.int .i64 e.id, .int .i64 e.inn, .int .i64 e.out, .string e.region, .int .u8 e.kind, .string e.speaker, .slice A n c] 66)).grown hgr5 (fun q hq => by have := hlt q hq; omega))
    have HB10 := Lib.hid ((HB9.out.alloc (.cells #[.int .i64 e.id, .int .i64 e.inn, .int .i64 e.out, .string e.region, .int .u8 e.kind, .string e.speaker, .slice A n c] 66)).kb (KB.grown hgr5 hty (by decide)))
    have HZ10 := Lib.hid ((HZ9.out.alloc (.cells #[.int .i64 e.id, .int .i64 e.inn, .int .i64 e.out, .string e.region, .int .u8 e.kind, .string e.speaker, .slice A n c] 66)).kb (KB.grown hgr5 hty (by decide)))
    have HV10 : Hid (Blk w5 (w.heap.size + 1) 66 #[.int .i64 e.id, .int .i64 e.inn, .int .i64 e.out, .string e.region, .int .u8 e.kind, .string e.speaker, .slice A n c]) := by
      show Blk _ _ _ _
      have hold := HV9.out.alloc (.cells #[.int .i64 e.id, .int .i64 e.inn, .int .i64 e.out, .string e.region, .int .u8 e.kind, .string e.speaker, .slice A n c] 66)
      unfold Blk at hold ⊢
      rw [hgr5.block _ (Array.getElem?_eq_some_iff.1 hold).1 (fun hq => by have := hlt _ hq.symm; omega)]
      exact hold
    have hown6 : w5.ownsRow w6.heap.size 66 7 (.slice A5 (en' + 1) c5) (en' + 1) ((hs ++ [EH.of (e.setId e.id) A n c]).flatMap EH.vals) := by
      rw [List.flatMap_append]
      simpa [EH.vals, EH.of, Ev.setId] using hown5
    obtain ⟨A6, c6, hv6, hc6, hm6, hsl6, -⟩ := own_sl (f := EH.vals) (size := 7) EH.len (by rw [List.length_append, HHl.out]; rfl) hown6
    cases hv6
    have k1 : KB 87 (W.alloc (.cells #[.int .i64 e.id, .int .i64 e.inn, .int .i64 e.out, .string e.region, .int .u8 e.kind, .string e.speaker, .slice A n c] 66)) w5 := KB.grown hgr5 hty (by decide)
    have k2 : KB 84 (W.alloc (.cells #[.int .i64 e.id, .int .i64 e.inn, .int .i64 e.out, .string e.region, .int .u8 e.kind, .string e.speaker, .slice A n c] 66)) w5 := KB.grown hgr5 hty (by decide)
    have hatS : EvsAt w5 A5 (en' + 1) (d.evs ++ [e.setId e.id]) := by
      refine evsAt_heads hsl6 (by rw [List.length_append, HEvl.out]; rfl) (fun i h9 e9 hh9 he9 => ?_)
      by_cases hi : i < en'
      · rw [List.getElem?_append_left (by rw [HHl.out]; exact hi)] at hh9
        rw [List.getElem?_append_left (by rw [HEvl.out]; exact hi)] at he9
        have hg := ((HGd.out i h9 e9 hh9 he9).ext ((Ext.refl W).alloc (.cells #[.int .i64 e.id, .int .i64 e.inn, .int .i64 e.out, .string e.region, .int .u8 e.kind, .string e.speaker, .slice A n c] 66))).kb k1 k2
        exact ⟨hg.1, hg.at_⟩
      · have hil := (List.getElem?_eq_some_iff.1 hh9).1
        rw [List.length_append, HHl.out] at hil
        simp only [List.length_singleton] at hil
        obtain rfl : i = en' := by omega
        rw [List.getElem?_append_right (by rw [HHl.out]; exact Nat.le_refl _), HHl.out, Nat.sub_self] at hh9
        rw [List.getElem?_append_right (by rw [HEvl.out]; exact Nat.le_refl _), HEvl.out, Nat.sub_self] at he9
        simp only [List.getElem?_cons_zero, Option.some.injEq] at hh9 he9
        subst hh9 he9
        exact ⟨rfl, ((HEa.out.ext HX10.out).setId e.id)⟩
    have HSo := Lib.hid (DSort_any (d.evs ++ [e.setId e.id]) A5 (en' + 1) c5 w5 hatS (by omega))
    have HRg9 := Lib.hid (own_kb (own_ext HO9.out.regs ((Ext.refl W).alloc (.cells #[.int .i64 e.id, .int .i64 e.inn, .int .i64 e.out, .string e.region, .int .u8 e.kind, .string e.speaker, .slice A n c] 66))) (KB.grown hgr5 hty (by decide)))
    have HCm9 := Lib.hid (own_kb (own_ext HO9.out.coms ((Ext.refl W).alloc (.cells #[.int .i64 e.id, .int .i64 e.inn, .int .i64 e.out, .string e.region, .int .u8 e.kind, .string e.speaker, .slice A n c] 66))) (KB.grown hgr5 hty (by decide)))
    have HRl9 := Lib.hid HO9.out.rlen
    have HCl9 := Lib.hid HO9.out.clen
    have hsz10 := HX10.out.size
    clear hown4 hty hlt hown5 hown6 hgr5 hsl6 k1 k2 hatS HB9 HZ9 HV9 HX9 HO9 HOw HGd HHl HEvl
    refine HSo.out.mono ?_
    rintro en w8 ⟨v8, rfl, hev8, hx8⟩
    obtain ⟨A8, c8, hv8, -, -, -⟩ := hev8.at_
    subst hv8
    have HX11 := Lib.hid (HX10.out.trans hx8)
    have HB11 := Lib.hid (HB10.out.ext hx8)
    have HZ11 := Lib.hid (HZ10.out.ext hx8)
    have HV11 := Lib.hid (HV10.out.ext hx8)
    have HE11 := Lib.hid hev8
    have HRg11 := Lib.hid (own_ext HRg9.out hx8)
    have HCm11 := Lib.hid (own_ext HCm9.out hx8)
    have hs11 := fun u => setCell_put HB11.out 6 u
    have hc11 := HB11.out.cell 6
    have hf11 := HB11.out.frozen 6
    simp at hs11 hc11
    clear hx8 hev8 HX10 HB10 HZ10 HV10 HRg9 HCm9 HSo
    go_upto_region 22 with fail
    clear hs11 hc11 hf11
    obtain ⟨W9, hW9⟩ : ∃ W9, W9 = putB w8 w.heap.size 27 #[.string d.title, .string d.lang, .int .u8 d.rate, .bool d.drop, .int .i64 d.last, .slice ra rn rc, .slice A8 (en' + 1) c8, .slice ca cn cc] := ⟨_, rfl⟩
    rw [← hW9]
    have HB12 : Hid (Blk W9 w.heap.size 27 #[.string d.title, .string d.lang, .int .u8 d.rate, .bool d.drop, .int .i64 d.last, .slice ra rn rc, .slice A8 (en' + 1) c8, .slice ca cn cc]) := by show Blk _ _ _ _; rw [hW9]; exact HB11.out.put _
    have HZ12 : Hid (Blk W9 (w.heap.size + 2) 27 #[.string ⟨#[]⟩, .string ⟨#[]⟩, .int .u8 0, .bool false, .int .i64 0, .slice none 0 0, .slice none 0 0, .slice none 0 0]) := by show Blk _ _ _ _; rw [hW9]; exact HZ11.out.put_other (by omega) _
    have HV12 : Hid (Blk W9 (w.heap.size + 1) 66 #[.int .i64 e.id, .int .i64 e.inn, .int .i64 e.out, .string e.region, .int .u8 e.kind, .string e.speaker, .slice A n c]) := by show Blk _ _ _ _; rw [hW9]; exact HV11.out.put_other (by omega) _
    have HX12 : Hid (Ext w W9) := by show Ext _ _; rw [hW9]; exact HX11.out.put (Nat.le_refl _) _ _
    have HO12 : Hid (DocOwn W9 w.heap.size (d.insD e) ⟨ra, rn, rc, A8, en' + 1, c8, ca, cn, cc⟩) := by
      show DocOwn _ _ _ _
      rw [hW9]
      refine DocOwn.mk (own_kb (own_le HRg11.out hsz6) (KB.put HB11.out (by decide))) HRl9.out ?_ (own_kb (own_le HCm11.out hsz6) (KB.put HB11.out (by decide))) HCl9.out
      show EvsOwn _ _ _ _ (srtE (d.evs ++ [e.setId (d.insId e)]))
      rw [HI.out]
      exact (HE11.out.kb (KB.put HB11.out (by decide)) (KB.put HB11.out (by decide)) (KB.put HB11.out (by decide))).le (by omega)
    have hne1 : w.heap.size ≠ w.heap.size + 2 := by omega
    have hne2 : w.heap.size + 1 ≠ w.heap.size + 2 := by omega
    clear hW9 HB11 HZ11 HV11 HX11 HE11 HRg11 HCm11
    refine wp_region_links [some 78, some 79, some 80, none, some 5, some 6] [[], [], [1], [0, 0], [2, 3, 0, 1, 2, 3], [4, 0, 1, 2, 3, 4]] [3] [.agg #[.string d.title, .string d.lang, .int .u8 d.rate, .bool d.drop, .int .i64 d.last, .slice ra rn rc, .slice A8 (en' + 1) c8, .slice ca cn cc], .pointer (some ⟨w.heap.size + 1, 0, none⟩), .int .i64 e.id, undef, .int .i64 e.id, .int .i64 0] (RdJ (w.heap.size + 2) #[.string d.title, .string d.lang, .int .u8 d.rate, .bool d.drop, .int .i64 d.last, .slice ra rn rc, .slice A8 (en' + 1) c8, .slice ca cn cc] W9) (by kernel_rfl) (by kernel_rfl) (by kernel_rfl) (by kernel_rfl) (by kernel_rfl) (by kernel_rfl) (by kernel_rfl) (by decide) ?_ ?_ ?_ ?_
    · exact RdJ.start _ _ W9
    · intro i o ho hc a w' us K' hJ hF hlim hk
      match i, ho with
      | 0, ho =>
        simp only [List.getElem?_toArray, List.getElem?_cons_zero, List.getElem?_cons_succ, Option.some.injEq] at ho
        subst ho
        have e2 := hF.old 2 (.pointer (some ⟨w.heap.size, 0, none⟩)) rfl rfl
        exact wp_loadBk 27 (.tmp 2) rfl _ 27 _ _ e2 (hJ.blk HB12.out hne1) Tryz.underlying27 rfl (by exact size_docI) hk
      | 1, ho =>
        simp only [List.getElem?_toArray, List.getElem?_cons_zero, List.getElem?_cons_succ, Option.some.injEq] at ho
        subst ho
        have e3 := hF.old 3 (.pointer (some ⟨w.heap.size + 1, 0, none⟩)) rfl rfl
        simp only [Act.eval] at e3
        clear hF hlim hJ
        go_simp
        exact hk
      | 2, ho =>
        simp only [List.getElem?_toArray, List.getElem?_cons_zero, List.getElem?_cons_succ, Option.some.injEq] at ho
        subst ho
        have e79 := hF.pure 1 79 (.pointer (some ⟨w.heap.size + 1, 0, none⟩)) rfl rfl rfl rfl
        have hcl : w'.cell? ⟨w.heap.size + 1, 0, none⟩ = some (.int .i64 e.id) := (hJ.blk HV12.out hne2).cell 0
        simp only [Act.eval] at e79
        clear hF hlim hJ
        go_simp
        exact hk
      | 3, ho => simp at hc
      | 4, ho =>
        simp only [List.getElem?_toArray, List.getElem?_cons_zero, List.getElem?_cons_succ, Option.some.injEq] at ho
        subst ho
        have e80 := hF.pure 2 80 (.int .i64 e.id) rfl rfl rfl rfl
        simp only [Act.eval] at e80
        clear hF hlim hJ
        go_simp
        exact hk
      | 5, ho =>
        simp only [List.getElem?_toArray, List.getElem?_cons_zero, List.getElem?_cons_succ, Option.some.injEq] at ho
        subst ho
        clear hF hlim hJ
        go_simp
        exact hk
      | i + 6, ho => simp at ho
    · intro p c' o hp ho a w' us K' hl hJ hF hk
      match p, hp with
      | 0, hp =>
        obtain rfl : 3 = c' := by simpa using hp
        simp only [List.getElem?_toArray, List.getElem?_cons_zero, List.getElem?_cons_succ, Option.some.injEq] at ho
        subst ho
        obtain rfl : us = [] := List.eq_nil_of_length_eq_zero hl
        have e4 := hF.old 4 (.pointer (some ⟨w.heap.size + 2, 0, none⟩)) rfl rfl
        have e78 := hF.pure 0 78 (.agg #[.string d.title, .string d.lang, .int .u8 d.rate, .bool d.drop, .int .i64 d.last, .slice ra rn rc, .slice A8 (en' + 1) c8, .slice ca cn cc]) rfl rfl rfl rfl
        exact wp_storeB 27 (.tmp 4) (.tmp 78) rfl (w.heap.size + 2) 27 _ _ e4 e78 (by exact size_docI) (by simp [Value.oneCell']) (hJ.blk_nil HZ12.out) rfl (hk undef _ hJ.store)
      | p + 1, hp => simp at hp
    intro us w10 hl hJ
    obtain ⟨u0, rfl⟩ := list_1 hl
    first | (rename_i hK; refine hK _ _ ?_; clear hK) | (rename_i hK hK_1; refine hK _ _ ?_; clear hK) | (rename_i hK hK_1 hK_2; refine hK _ _ ?_; clear hK) | (rename_i hK hK_1 hK_2 hK_3; refine hK _ _ ?_; clear hK)
    generalize hL : frameL _ _ _ _ = L
    obtain rfl : L = [(78, .agg #[.string d.title, .string d.lang, .int .u8 d.rate, .bool d.drop, .int .i64 d.last, .slice ra rn rc, .slice A8 (en' + 1) c8, .slice ca cn cc]), (79, .pointer (some ⟨w.heap.size + 1, 0, none⟩)), (80, .int .i64 e.id), (5, .int .i64 e.id), (6, .int .i64 0)] := hL.symm.trans (by kernel_rfl)
    clear hL hl
    simp only [Act.put, List.foldl_cons, List.foldl_nil, List.setIfInBounds_toArray, List.set_cons_zero, List.set_cons_succ]
    obtain ⟨w11, hx11, rfl⟩ := hJ.one
    clear hJ
    go_wp2_with fail
    refine bodyPost_ret (v := .tuple #[.agg #[.string d.title, .string d.lang, .int .u8 d.rate, .bool d.drop, .int .i64 d.last, .slice ra rn rc, .slice A8 (en' + 1) c8, .slice ca cn cc], .int .i64 e.id, .int .i64 0]) ?_ rfl ⟨⟨ra, rn, rc, A8, en' + 1, c8, ca, cn, cc⟩, ?_, ?_, ?_⟩
    · exact results_B_tmp2 (P := Tryz.prog) Tryz.results49 (g := w.heap.size + 2) rfl (by exact (HZ12.out.ext hx11).put _) Tryz.underlying27 rfl size_docI
    · rw [HOk.out]; show _ = Ending.returned (.tuple #[.agg ((d.insD e).cells _), .int .i64 (d.insId e), .int .i64 0]); rw [HI.out]; unfold Doc.cells Doc.insD; rw [HLs.out]
    · rw [HOk.out]; exact (HO12.out.ext hx11).put (HZ12.out.ext hx11) _
    · exact (HX12.out.trans hx11).put (by omega) _ _
end Go.Proofs.YtagfedbdakmlgaaGreatDoor
