/- Laid together: The walk of document.taken. The walk of document.Sort. -/
import Derived.Test.YtagfedbdakmlgaaGreatDoorMo13
import Derived.Test.YtagfedbdakmlgaaGreatDoorMo12
import Derived.Test.YtagfedbdakmlgaaGreatDoorMo04

/-! TakenD -/
namespace Go.Proofs.YtagfedbdakmlgaaGreatDoor
set_option linter.unusedVariables false
set_option linter.unusedSimpArgs false
open Go.RowKit
set_option maxHeartbeats 400000 in
theorem TFind1_any (x : Com) (g : Nat) (id : Int) (w : World) (hB : Blk w g 2 #[.int .i64 id]) :
    Calls Tryz.prog 156 #[.agg #[.int .i64 x.id, .int .i64 x.ev, .int .i64 x.fr, .int .i64 x.til, .string x.author, .string x.text, .bool x.done, .bool x.lost], .pointer (some ⟨g, 0, none⟩)] w fun e w' => e = .returned (.bool (x.id == id)) ∧ Ext w w' := by
  have HX := Lib.hid ((Ext.refl w).alloc (.cells #[.int .i64 x.id, .int .i64 x.ev, .int .i64 x.fr, .int .i64 x.til, .string x.author, .string x.text, .bool x.done, .bool x.lost] 78))
  have hg : ∀ o, (w.alloc o).cell? ⟨g, 0, none⟩ = some (.int .i64 id) := fun o => (hB.alloc o).cell 0
  have hlt := hB.lt
  clear hB
  go_enter Tryz.func156, Tryz.ntmps156
  go_wp2_with fail
  go_ret
  exact ⟨rfl, HX.out⟩
set_option maxRecDepth 100000 in
set_option maxHeartbeats 1000000 in
theorem TIndex_any (A : Option Addr) (n c : Nat) (l : List Com) (g : Nat) (id : Int) (w : World) (hl : ComsAt w A n l) (hn : n ≤ 4611686018427387904) (hB : Blk w g 2 #[.int .i64 id]) :
    Calls Tryz.prog 88 #[.slice A n c, .func (.func 156) #[] #[.pointer (some ⟨g, 0, none⟩)]] w fun e w' => e = .returned (.int .i64 (findCI l id)) ∧ Ext w w' := by
  have HE := Lib.hid hl
  have HLn := Lib.hid hl.len
  have HBg := Lib.hid hB
  clear hl hB
  go_enter Tryz.func88, Tryz.ntmps88
  go_wp2_with fail
  go_loopw [8] (fun i wr => CIxRel w n id l i wr) (fun i _ => n - (intOf i).toNat)
  case atStart => exact ⟨0, Nat.zero_le _, rfl, rfl, Ext.refl _⟩
  case round =>
    obtain ⟨k, hk, rfl, hF, hx⟩ := hrel
    have HF := Lib.hid hF
    clear hF
    by_cases hlt : k < n
    · obtain ⟨b, off, x, rfl, hxx, c0, c1, c2, c3, c4, c5, c6, c7⟩ := (HE.out.ext hx).at8 hlt
      have HXx := Lib.hid hxx
      have HCl := Lib.hid (TFind1_any x g id wr (HBg.out.ext hx))
      clear hxx
      by_cases he : x.id = id
      · have hb : (x.id == id) = true := by simpa using he
        have HV := Lib.hid (findC_here HF.out HXx.out he)
        rw [hb] at HCl
        clear he hb
        go_wp2_with fail
        refine HCl.out.mono ?_
        rintro en w2 ⟨rfl, hx2⟩
        go_wp2_with fail
        go_ret
        exact ⟨ret_int (by unfold findCI; rw [HV.out]), hx.trans hx2⟩
      · have hb : (x.id == id) = false := by simpa using he
        have HV := Lib.hid (findC_on HF.out HXx.out he)
        rw [hb] at HCl
        clear he hb
        go_wp2_with fail
        refine HCl.out.mono ?_
        rintro en w2 ⟨rfl, hx2⟩
        go_wp2_with fail
        exact ⟨⟨k + 1, by omega, by go_num, HV.out, hx.trans hx2⟩, by simp [intOf]; omega⟩
    · have hkn : k = n := by omega
      have HV : Hid (findC l id = none) := by
        show _ = _
        have h1 := HF.out
        rwa [List.take_of_length_le (by rw [HLn.out]; omega)] at h1
      subst hkn
      go_wp2_with fail
      go_ret
      exact ⟨ret_int (by unfold findCI; rw [HV.out]), hx⟩
set_option maxHeartbeats 400000 in
theorem TContains_any (A : Option Addr) (n c : Nat) (l : List Com) (g : Nat) (id : Int) (w : World) (hl : ComsAt w A n l) (hn : n ≤ 4611686018427387904) (hB : Blk w g 2 #[.int .i64 id]) :
    Calls Tryz.prog 155 #[.slice A n c, .func (.func 156) #[] #[.pointer (some ⟨g, 0, none⟩)]] w fun e w' => e = .returned (.bool (decide (0 ≤ findCI l id))) ∧ Ext w w' := by
  have HI := Lib.hid (TIndex_any A n c l g id w hl hn hB)
  clear hl hB
  go_enter Tryz.func155, Tryz.ntmps155
  go_wp2_with fail
  refine HI.out.mono ?_
  rintro en w2 ⟨rfl, hx2⟩
  go_wp2_with fail
  go_ret
  exact ⟨rfl, hx2⟩
set_option maxRecDepth 100000 in
set_option maxHeartbeats 1000000 in
theorem DTaken_any (d : Doc) (h : DocH) (id : Int) (w : World) (hat : DocAt w d h) (hn : h.en ≤ 1000000) (hcn : h.cn ≤ 1000000) :
    Calls Tryz.prog 112 #[.agg (d.cells h), .int .i64 id] w fun e w' => e = .returned (.bool (d.takenB id)) ∧ Ext w w' := by
  have HX : Hid (Ext w ((w.alloc (.cells (d.cells h) 27)).alloc (.cells #[.int .i64 id] 2))) := ((Ext.refl w).alloc _).alloc _
  have HB : Hid (Blk ((w.alloc (.cells (d.cells h) 27)).alloc (.cells #[.int .i64 id] 2)) w.heap.size 27 (d.cells h)) := (Blk.new w _ _).alloc _
  have HI : Hid (Blk ((w.alloc (.cells (d.cells h) 27)).alloc (.cells #[.int .i64 id] 2)) (w.heap.size + 1) 2 #[.int .i64 id]) := Blk.new' (by simp)
  have HF := Lib.hid (fun w' (hx : Ext w w') => DFind_any d h id w' (hat.evs.ext hx) (by omega))
  have HC := Lib.hid (fun w' (hx : Ext w w') g hB => TContains_any h.ca h.cn h.cc d.coms g id w' (hat.coms.ext hx) (by omega) hB)
  have HT : Hid (d.takenB id = (decide (0 ≤ findI d.evs id) || decide (0 ≤ findCI d.coms id))) := rfl
  clear hat
  obtain ⟨hra, nr, hrc, hea, hen, hec, hca, nc, hcc⟩ := h
  unfold Doc.cells at *
  dsimp only at *
  go_enter Tryz.func112, Tryz.ntmps112
  have hcb := fun o => HB.out.cell o
  have hci := fun o => HI.out.cell o
  go_wp2_with (refine wpList_loadB rfl 27 (.tmp 2) rfl w.heap.size 27 _ _ (by exact rfl) (by exact HB.out) Tryz.underlying27 rfl (by exact size_docI) ?_)
  clear hcb hci
  refine (HF.out _ HX.out).mono ?_
  rintro en w2 ⟨rfl, hx2⟩
  have HX2 := Lib.hid (HX.out.trans hx2)
  have HB2 := Lib.hid (HB.out.ext hx2)
  have HI2 := Lib.hid (HI.out.ext hx2)
  clear HX HB HI hx2
  have hcb := fun o => HB2.out.cell o
  by_cases h1 : 0 ≤ findI d.evs id
  · have HV : Hid (d.takenB id = true) := by show _ = _; rw [HT.out, decide_eq_true h1]; rfl
    go_wp2_with fail
    go_ret
    exact ⟨ret_bool HV.out.symm, HX2.out⟩
  have HV : Hid (d.takenB id = decide (0 ≤ findCI d.coms id)) := by show _ = _; rw [HT.out, decide_eq_false h1]; rfl
  go_wp2_with fail
  refine (HC.out _ HX2.out _ HI2.out).mono ?_
  rintro en w3 ⟨rfl, hx3⟩
  go_wp2_with fail
  go_ret
  exact ⟨ret_bool HT.out.symm, HX2.out.trans hx3⟩
end Go.Proofs.YtagfedbdakmlgaaGreatDoor

/-! SortD -/
namespace Go.Proofs.YtagfedbdakmlgaaGreatDoor
set_option linter.unusedVariables false
set_option linter.unusedSimpArgs false
open Go.RowKit
set_option maxRecDepth 100000 in
set_option maxHeartbeats 2000000 in
theorem sortF_d (x y : EH) (w : World) :
    Calls Tryz.prog 107 #[.agg x.vals.toArray, .agg y.vals.toArray] w fun e w' => e = .returned (.int .i64 (cmpH x y)) ∧ Extd w w' := by
  have HX := Lib.hid (((Extd.refl w).alloc (.cells x.vals.toArray 66)).alloc (.cells y.vals.toArray 66))
  have HV : Hid (orI (cmpI x.inn y.inn) (cmpI x.id y.id) = cmpH x y) := rfl
  unfold EH.vals at HX ⊢
  go_enter Tryz.func107, Tryz.ntmps107
  go_wp2_with fail
  go_region_held3 (fun w' => w'.cell? ⟨w.heap.size, 0, none⟩ = some (.int .i64 x.id) ∧ w'.cell? ⟨w.heap.size, 1, none⟩ = some (.int .i64 x.inn) ∧ w'.cell? ⟨w.heap.size + 1, 0, none⟩ = some (.int .i64 y.id) ∧ w'.cell? ⟨w.heap.size + 1, 1, none⟩ = some (.int .i64 y.inn)) (go_keep) (first | (go_at_call 109; refine (Compare_any _ _ _).mono ?_; rintro e w1 ⟨rfl, rfl⟩) | (go_at_call 108; refine (Or_any (cmpI x.inn y.inn) (cmpI x.id y.id) _ _ _ (by exact (Blk.drew (Blk.new' (by simp))).cell 0) (by exact (Blk.drew (Blk.new' (by simp))).cell 1)).mono ?_; rintro e w1 ⟨rfl, rfl⟩))
  go_wp2_with fail
  go_ret
  exact ⟨ret_int HV.out, (HX.out.drew).alloc _⟩
theorem sortF_lays (g off n : Nat) (w : World) : Go.Proofs.CmpLays Tryz.prog 107 #[] EH.vals 7 cmpH g off n w :=
  fun _ _ _ _ x y => (sortF_d x y _).mono fun _ _ ⟨he, hx⟩ => ⟨he, hx.grow⟩
theorem sortF_enter : ∀ args w, (callFunc 107 args).run Tryz.prog w = .ok (.enter 107 args) w := Go.Proofs.enters_of Tryz.func107 (by kernel_rfl) rfl
theorem EH.ones (x : EH) : ∀ v ∈ x.vals, v.oneCell' = true := by
  intro v hv
  simp only [EH.vals, List.mem_cons, List.not_mem_nil, or_false] at hv
  rcases hv with rfl | rfl | rfl | rfl | rfl | rfl | rfl <;> rfl
/-- events are sorted into memory of one's own -/
def SortPost (l : List Ev) (n : Nat) (w : World) (en : Ending) (w' : World) : Prop := ∃ v, en = .returned v ∧ EvsOwn w' w.heap.size v n (srtE l) ∧ Ext w w'
def SortLoop (l : List Ev) (n : Nat) (w : World) (v i : Value) (wr : World) : Prop := ∃ k : Nat, k ≤ n ∧ i = .int .i64 k ∧ Ext w wr ∧ EvsOwn wr w.heap.size v k (l.take k)
theorem SortLoop.step {w wr w2 : World} {k : Nat} {l : List Ev} {v v' : Value} {e : Ev} {hs : List EH} {A' : Option Addr} {n' c' : Nat} (hx : Ext w wr) (r : EvsOwn wr w.heap.size v k (l.take k)) (he : l[k]? = some e) (h1 : wr.ownsRow w.heap.size 66 7 v k (hs.flatMap EH.vals))
    (hg : EGood wr w.heap.size (EH.of e A' n' c') e) (hgr : wr.grownBy w2 v.ownBlock) (hO : w2.ownsRow w.heap.size 66 7 v' (k + 1) (hs.flatMap EH.vals ++ (e.cells A' n' c').toList)) : Ext w w2 ∧ EvsOwn w2 w.heap.size v' (k + 1) (l.take (k + 1)) := by
  refine ⟨hx.grown hgr (fun q hq => own_lt h1 q hq), ?_⟩
  rw [take_snoc' l k e he]
  exact r.push h1 hg hgr hO
/-- SortStableFunc at a row of events of one's own -/
theorem stable_own {w w0 : World} {L n : Nat} {v : Value} {l : List Ev} (h : EvsOwn w L v n l) (hn : n < 1152921504606846976) (hx : Ext w0 w) (hL : w0.heap.size ≤ L) :
    Calls Tryz.prog 106 #[v, .func (.func 107) #[] #[]] w fun e w' => e = .returned (.tuple #[]) ∧ EvsOwn w' L v n (srtE l) ∧ Ext w0 w' := by
  obtain ⟨hs, h1, h2, h3, h4⟩ := h
  rcases h1.2 with ⟨hv, hn0⟩ | ⟨g, c, cur, rfl, hg, hb, -⟩
  · subst hv
    refine (sortStable_nil stL _ w).mono ?_
    rintro e w' ⟨rfl, rfl⟩
    have hl : l = [] := List.length_eq_zero_iff.1 (by omega)
    subst hl
    exact ⟨rfl, ⟨hs, h1, h2, h3, fun i h e a b => by simp [srtE, Stb.sortS] at b⟩, hx⟩
  · have hg' : g < w.heap.size := (Array.getElem?_eq_some_iff.1 hb).1
    have hz : hs.toArray.size = n := by simp [h2]
    have hH := own_holds EH.len h1 h2
    have hcon := sortStable_st stL EH.vals cmpH 107 #[] g 0 c hs.toArray hs.toArray w w sortF_enter (sortF_lays g 0 _ w) ⟨EH.len, EH.ones, hH, hg'⟩ rfl (Go.Proofs.SWK.start hH) (by rw [hz]; exact hn) (by rw [ltOf_H]; exact ltH_sw)
    rw [hz] at hcon
    refine hcon.mono ?_
    rintro e w' ⟨rfl, d', hd', hS, hl⟩
    obtain ⟨hs', rfl⟩ : ∃ hs' : List EH, d' = hs'.toArray := ⟨d'.toList, by simp⟩
    refine ⟨rfl, EvsOwn.sorted h1 h2 h3 h4 hS (by rw [ltOf_H] at hl; simpa using hl), hx.grown (swk_grown hS) (fun q hq => by cases hq; omega)⟩
set_option maxRecDepth 100000 in
set_option maxHeartbeats 4000000 in
theorem DSort_any (l : List Ev) (A : Option Addr) (n c : Nat) (w : World) (hat : EvsAt w A n l) (hn : n * 88 ≤ 140737488355328) :
    Calls Tryz.prog 44 #[.slice A n c] w (SortPost l n w) := by
  have HE := Lib.hid hat
  have HEl := Lib.hid hat.len
  clear hat
  go_enter Tryz.func44, Tryz.ntmps44
  go_wp2_with fail
  go_loopw [3, 8] (fun v i wr => SortLoop l n w v i wr) (fun _ i _ => n - (intOf i).toNat)
  case atStart => exact ⟨0, Nat.zero_le _, rfl, Ext.refl w, EvsOwn.nil _ _⟩
  case round =>
    obtain ⟨k, hk, rfl, hx, hev⟩ := hrel
    have HXr := Lib.hid hx
    have HEv := Lib.hid hev
    clear hx hev
    by_cases hlt : k < n
    · obtain ⟨b, off, x, A', n', c', rfl, hxx, hxat, e0, e1, e2, e3, e4, e5, e6⟩ := (HE.out.ext HXr.out).at_ev hlt
      have HXx := Lib.hid hxx
      have HCn := Lib.hid (fun w' (hx : Ext wr w') => EClone_any x A' n' c' w' (hxat.ext hx))
      have hn24 := hxat.2.2
      clear hxx hxat
      unfold EClPost Ev.cells at HCn
      have HBx := Lib.hid (Blk.new wr 66 #[.int .i64 x.id, .int .i64 x.inn, .int .i64 x.out, .string x.region, .int .u8 x.kind, .string x.speaker, .slice A' n' c'])
      go_wp2_with (refine wpList_loadB rfl 66 (.tmp 5) rfl wr.heap.size 66 _ _ (by exact rfl) (by exact HBx.out) Tryz.underlying66 rfl (by exact size_event) ?_)
      clear e0 e1 e2 e3 e4 e5 e6
      refine (HCn.out _ ((Ext.refl wr).alloc _)).mono ?_
      rintro en w5 ⟨A5, c5, rfl, hnc5, hrf5, hx5⟩
      have HX5 := Lib.hid (((Ext.refl wr).alloc (.cells #[.int .i64 x.id, .int .i64 x.inn, .int .i64 x.out, .string x.region, .int .u8 x.kind, .string x.speaker, .slice A' n' c'] 66)).trans hx5)
      have HRf := Lib.hid hrf5
      have hsz := HXr.out.size
      have hsz5 := HX5.out.size
      obtain ⟨hs, hown⟩ := (HEv.out.ext HX5.out).heads
      have HOw := Lib.hid hown
      clear hrf5 hx5 hown
      go_wp2_with (at_builtin; refine wpList_append1 rfl (.tmp 12) (.tmp 15) 24 rfl info_evtI Tryz.underlying24 rfl (by decide) (HOw.out.alloc _) (by exact rfl) w5.heap.size _ (by exact rfl) (by exact Blk.new' (by simp)) (by exact rfl) (by simp [Value.oneCell']) (by omega) (by simp [maxLen]; omega) (by simp; omega) ?_; intro v' w6 hown' hgr)
      have hg : EGood (w5.alloc (.cells #[.int .i64 x.id, .int .i64 x.inn, .int .i64 x.out, .string x.region, .int .u8 x.kind, .string x.speaker, .slice A5 n' c5] 66)) w.heap.size (EH.of x A5 n' c5) x := ⟨rfl, hnc5, hn24, (HRf.out.ext ((Ext.refl w5).alloc _)).le (by simp; omega)⟩
      have hst := SortLoop.step (HXr.out.trans (HX5.out.trans ((Ext.refl w5).alloc (.cells #[.int .i64 x.id, .int .i64 x.inn, .int .i64 x.out, .string x.region, .int .u8 x.kind, .string x.speaker, .slice A5 n' c5] 66)))) ((HEv.out.ext HX5.out).ext ((Ext.refl w5).alloc (.cells #[.int .i64 x.id, .int .i64 x.inn, .int .i64 x.out, .string x.region, .int .u8 x.kind, .string x.speaker, .slice A5 n' c5] 66))) HXx.out (HOw.out.alloc _) hg hgr hown'
      exact ⟨⟨k + 1, by omega, by go_num, hst.1, hst.2⟩, by simp [intOf]; omega⟩
    · have hkn : k = n := by omega
      subst hkn
      have htk : l.take k = l := List.take_of_length_le (by rw [HEl.out]; omega)
      have hev := HEv.out
      rw [htk] at hev
      obtain ⟨A6, c6, hv, hc6, -, -⟩ := hev.at_
      subst hv
      have HS := Lib.hid (stable_own hev (by omega) HXr.out (Nat.le_refl _))
      clear hev htk HEv
      go_wp2_with fail
      refine HS.out.mono ?_
      rintro en w9 ⟨rfl, ho9, hx9⟩
      go_wp2_with fail
      go_ret
      exact ⟨_, rfl, ho9, hx9⟩
end Go.Proofs.YtagfedbdakmlgaaGreatDoor
