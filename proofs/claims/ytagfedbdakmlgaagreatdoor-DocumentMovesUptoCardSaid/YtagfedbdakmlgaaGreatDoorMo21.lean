/- Laid together: The walk of the reference's Remove. A document in another rate is accepted; its drifts are small: plainly. A region that draws its order, by an invariant: each operation is met once, whatever came ahead of it. The walks of event.Split and of the reference's Split: the errors. What a join of two events comes to; appends of rows, at a step of a region that draws its order. The plain law of EventReturns: the parts of a valid event are valid, share its frames and rows, and give it back when they are joined. No walk here. Events moved in time, plainly; a cell of an event of one's own is stored. -/
import Derived.Test.YtagfedbdakmlgaaGreatDoorMo17
import Derived.Test.YtagfedbdakmlgaaGreatDoorMo20
import Derived.Test.YtagfedbdakmlgaaGreatDoorMo13
import Derived.Test.YtagfedbdakmlgaaGreatDoorMo11
import Derived.Test.YtagfedbdakmlgaaGreatDoorMo05
import Derived.Test.YtagfedbdakmlgaaGreatDoorMo04
import Derived.Deep.AppendLies

/-! RemvR -/
namespace Go.Proofs.YtagfedbdakmlgaaGreatDoor
set_option linter.unusedVariables false
set_option linter.unusedSimpArgs false
open Go.RowKit
def Doc.remRX (d : Doc) (id : Int) : DE :=
  if d.err ≠ 0 then (Doc.zero, d.err) else match findE d.evs id with
    | none => (Doc.zero, 6)
    | some k => ((d.cutE k).withComs (d.coms.map (Com.loseR id)), 0)
section
variable {d : Doc} {id : Int} {k : Nat}
theorem remR_1 (h : d.err ≠ 0) : d.remRX id = (Doc.zero, d.err) := by unfold Doc.remRX; rw [if_pos h]
theorem remR_2 (h : d.err = 0) (h2 : findE d.evs id = none) : d.remRX id = (Doc.zero, 6) := by unfold Doc.remRX; rw [if_neg (by simpa using h), h2]
theorem remR_3 (h : d.err = 0) (h2 : findE d.evs id = some k) : d.remRX id = ((d.cutE k).withComs (d.coms.map (Com.loseR id)), 0) := by unfold Doc.remRX; rw [if_neg (by simpa using h), h2]
end
/-- an append in place, then the store of the new slice into a document, in a drawn region -/
structure RemJE (g : Nat) (cur2 : Array Value) (v : Value) (G8 : Nat) (cs8 : Array Value) (W : World) (us : List Value) (w' : World) : Prop where
  nil : us = [] → Ext W w'
  one : ∀ u, us = [u] → u = v ∧ ∃ w5, Ext W w5 ∧ w' = putB w5 g 66 cur2
  two : ∀ u u1, us = [u, u1] → u = v ∧ ∃ w5, Ext W w5 ∧ w' = putB (putB w5 g 66 cur2) G8 27 cs8
section
variable {g G8 : Nat} {cur2 cs8 cs : Array Value} {v : Value} {W w' : World} {us : List Value}
theorem RemJE.start (W : World) : RemJE g cur2 v G8 cs8 W [] W.drew := ⟨fun _ => (Ext.refl W).drew, fun u h => by simp at h, fun u u1 h => by simp at h⟩
theorem RemJE.app (h : RemJE g cur2 v G8 cs8 W [] w') : RemJE g cur2 v G8 cs8 W ([] ++ [v]) (putB w' g 66 cur2) := ⟨fun h => by simp at h, fun u hu => ⟨by simpa using hu.symm, w', h.nil rfl, rfl⟩, fun u u1 h => by simp at h⟩
theorem RemJE.sto {w5 : World} {u1 : Value} (_ : RemJE g cur2 v G8 cs8 W [v] (putB w5 g 66 cur2)) (hx : Ext W w5) : RemJE g cur2 v G8 cs8 W ([v] ++ [u1]) (putB (putB w5 g 66 cur2) G8 27 cs8) := ⟨fun h => by simp at h, fun u hu => by simp at hu, fun u u1 hu => by simp at hu; exact ⟨hu.1.symm, w5, hx, rfl⟩⟩
theorem RemJE.blk8 (h : RemJE g cur2 v G8 cs8 W us w') (hl : us.length ≤ 1) (hB : Blk W G8 27 cs) (hne : g ≠ G8) : Blk w' G8 27 cs := by
  match us, hl with
  | [], _ => exact hB.ext (h.nil rfl)
  | [u], _ =>
    obtain ⟨_, w5, hx, rfl⟩ := h.one u rfl
    exact (hB.ext hx).put_other hne _
end
set_option maxRecDepth 100000 in
set_option maxHeartbeats 4000000 in
theorem R12Remove_any (d : Doc) (h : DocH) (id : Int) (w : World) (hE : Env w) (hat : DocAt w d h) (hf : DocFit d) (hrn : h.rn ≤ 9223372036854775807) (hr : h.rn * 56 ≤ 140737488355328) (hn : h.en ≤ 1000000) (hcn : h.cn ≤ 1000000) :
    Calls Tryz.prog 31 #[.agg (d.cells h), .int .i64 id] w (DEPost (d.remRX id) w) := by
  have HX : Hid (Ext w ((w.alloc (.cells (d.cells h) 27)).alloc (.cells docZero 27))) := ((Ext.refl w).alloc _).alloc _
  have HB : Hid (Blk ((w.alloc (.cells (d.cells h) 27)).alloc (.cells docZero 27)) w.heap.size 27 (d.cells h)) := (Blk.new w _ _).alloc _
  have HZ : Hid (Blk ((w.alloc (.cells (d.cells h) 27)).alloc (.cells docZero 27)) (w.heap.size + 1) 27 docZero) := Blk.new' (by simp)
  have HCk := Lib.hid (fun w' (hx : Ext w w') => R12Check_any d h w' (hE.ext hx) (hat.ext hx) hf hrn hn (by omega))
  have HFd := Lib.hid (fun w' (hx : Ext w w') => R12Find_any d h id w' (hat.evs.ext hx) (by omega))
  have HCl := Lib.hid (fun w' (hx : Ext w w') => R12Clone_any d h w' (hat.ext hx) hr (by omega) (by omega))
  have HEln := Lib.hid hat.evs.len
  have HAt := Lib.hid hat.coms
  have HCln := Lib.hid hat.coms.len
  have END : ∀ (w9 : World) (e : Int), Ext w w9 → Blk w9 (w.heap.size + 1) 27 docZero → d.remRX id = (Doc.zero, e) → ∀ (tmps : Array Value), tmps.getD 4 undef = .pointer (some ⟨w.heap.size + 1, 0, none⟩) → tmps.getD 5 undef = .int .i64 e →
      (results Tryz.f31 tmps).run Tryz.prog (putB w9 (w.heap.size + 1) 27 docZero) = .ok (.tuple #[.agg docZero, .int .i64 e]) (putB w9 (w.heap.size + 1) 27 docZero) ∧
        DEPost (d.remRX id) w (.returned (.tuple #[.agg docZero, .int .i64 e])) (putB w9 (w.heap.size + 1) 27 docZero) := fun w9 e hx hz he tmps h8 h9 => by
    refine ⟨?_, dePost_err he (hx.put (by omega) _ _)⟩
    have := results_B_tmp (P := Tryz.prog) Tryz.results31 (tmps := tmps) (w := putB w9 (w.heap.size + 1) 27 docZero) (g := w.heap.size + 1) h8 (hz.put _) Tryz.underlying27 rfl size_docI
    rw [this, h9]
  have HEnd := Lib.hid END
  clear END hat hE hf hrn hr
  obtain ⟨hra, nr, hrc, hea, hen, hec, hca, nc, hcc⟩ := h
  unfold DClPost at HCl
  unfold Doc.cells docZero at *
  dsimp only at *
  go_enter Tryz.func31, Tryz.ntmps31
  go_wp2_with (refine wpList_loadB rfl 27 (.tmp 2) rfl (w.heap.size) 27 _ _ (by exact rfl) (by exact HB.out) Tryz.underlying27 rfl (by exact size_docI) ?_)
  refine (HCk.out _ HX.out).mono ?_
  rintro en w0 ⟨rfl, hx0⟩
  have HX0 := Lib.hid (HX.out.trans hx0)
  have HB0 := Lib.hid (HB.out.ext hx0)
  have HZ0 := Lib.hid (HZ.out.ext hx0)
  clear hx0 HX HB HZ HCk
  by_cases h0 : d.err = 0
  case neg =>
    have hne2 : (d.err != 0) = true := by simpa using h0
    have HR1 : Hid (d.remRX id = (Doc.zero, d.err)) := remR_1 h0
    clear h0
    go_wp2_with (refine wpList_storeB rfl 27 (.tmp 4) _ rfl (w.heap.size + 1) 27 _ _ (by exact rfl) (by exact rfl) (by exact HZ0.out) (by exact rfl) (by exact size_docI) (by simp [Value.oneCell']) ?_)
    exact (fun q => bodyPost_ret q.1 rfl q.2) (HEnd.out _ _ HX0.out HZ0.out (HR1.out) _ (by exact rfl) (by exact rfl))
  have HC := Lib.hid h0
  rw [h0]
  clear h0
  go_wp2_with (refine wpList_loadB rfl 27 (.tmp 2) rfl (w.heap.size) 27 _ _ (by exact rfl) (by exact HB0.out) Tryz.underlying27 rfl (by exact size_docI) ?_)
  refine (HFd.out _ HX0.out).mono ?_
  rintro en w1 ⟨rfl, hx1⟩
  have HX1 := Lib.hid (HX0.out.trans hx1)
  have HB1 := Lib.hid (HB0.out.ext hx1)
  have HZ1 := Lib.hid (HZ0.out.ext hx1)
  clear hx1 HX0 HB0 HZ0 HFd
  cases hfc : findE d.evs id with
  | none =>
    have hfi : findI d.evs id = -1 := by unfold findI; rw [hfc]
    have HR1 : Hid (d.remRX id = (Doc.zero, 6)) := remR_2 HC.out hfc
    rw [hfi]
    clear hfc hfi
    go_wp2_with (refine wpList_storeB rfl 27 (.tmp 4) _ rfl (w.heap.size + 1) 27 _ _ (by exact rfl) (by exact rfl) (by exact HZ1.out) (by exact rfl) (by exact size_docI) (by simp [Value.oneCell']) ?_)
    exact (fun q => bodyPost_ret q.1 rfl q.2) (HEnd.out _ _ HX1.out HZ1.out (HR1.out) _ (by exact rfl) (by exact rfl))
  | some k =>
  have hfi : findI d.evs id = (k : Int) := by unfold findI; rw [hfc]
  have hkl : k < hen := by have h1 := findE_lt hfc; have h2 := HEln.out; omega
  have HF := Lib.hid hfc
  rw [hfi]
  clear hfc hfi
  have HR1 : Hid (d.remRX id = ((d.cutE k).withComs (d.coms.map (Com.loseR id)), 0)) := remR_3 HC.out HF.out
  have HLs := Lib.hid (fun A c w' (hx : ComsAt w' A nc d.coms) => R12Lose_any d.coms A nc c id w' hx (by omega))
  go_wp2_with (refine wpList_loadB rfl 27 (.tmp 2) rfl (w.heap.size) 27 _ _ (by exact rfl) (by exact HB1.out) Tryz.underlying27 rfl (by exact size_docI) ?_)
  refine (HCl.out _ HX1.out).mono ?_
  rintro en w5 ⟨⟨ra, rn, rc, ea, en5, ec, ca, cn, cc⟩, rfl, ho5, hx5⟩
  dsimp only
  have hsz := HX1.out.size
  have hcn5 : k < en5 := by have := ho5.evs.len; have := HEln.out; dsimp only at *; omega
  obtain ⟨g, hca, hLg⟩ := ho5.ev_at hcn5
  dsimp only at hca
  subst hca
  have HP5 := Lib.hid (Blk.new w5 27 #[.string d.title, .string d.lang, .int .u8 d.rate, .bool d.drop, .int .i64 d.last, .slice ra rn rc, .slice (some ⟨g, 0, none⟩) en5 ec, .slice ca cn cc])
  have hxa := (Ext.refl w5).alloc (.cells #[.string d.title, .string d.lang, .int .u8 d.rate, .bool d.drop, .int .i64 d.last, .slice ra rn rc, .slice (some ⟨g, 0, none⟩) en5 ec, .slice ca cn cc] 27)
  have HX5 := Lib.hid ((HX1.out.trans hx5).trans hxa)
  have HZ5 := Lib.hid ((HZ1.out.ext hx5).ext hxa)
  have HO5 := Lib.hid (ho5.ext hxa)
  have hx5' := hx5.size
  clear hx5
  obtain ⟨hs, hown, hh, hel, hgd⟩ := HO5.out.evs
  dsimp only at hown hh hel hgd
  rcases hown.2 with ⟨hv, hn⟩ | ⟨g', cap, cur, hv, hg, hb, hnc, hcm, hcs, ht⟩
  · omega
  cases hv
  have hBb : Blk _ g 66 cur := hb
  have HNe : Hid (g ≠ w5.heap.size) := by
    show g ≠ _
    obtain ⟨hs', hown', -⟩ := ho5.evs
    have h1 := hown'.2
    rcases h1 with ⟨hv, hn⟩ | ⟨g2, cap2, cur2, hv, hg2, hb2, -⟩
    · dsimp only at hn; omega
    · cases hv
      have : g < w5.heap.size := Blk.lt hb2
      omega
  have HG8 : Hid (w1.heap.size ≤ w5.heap.size) := hx5'
  have hzl := HZ1.out.lt
  clear ho5 hx5'
  go_upto_region 8 with fail
  obtain ⟨G8, hG8⟩ : ∃ G8, G8 = w5.heap.size := ⟨_, rfl⟩
  obtain ⟨w2, hw2⟩ : ∃ w2, w2 = w5.alloc (.cells #[.string d.title, .string d.lang, .int .u8 d.rate, .bool d.drop, .int .i64 d.last, .slice ra rn rc, .slice (some ⟨g, 0, none⟩) en5 ec, .slice ca cn cc] 27) := ⟨_, rfl⟩
  rw [← hw2] at HP5 HX5 HZ5 HO5 hBb hown hgd ⊢
  rw [← hG8] at HP5 HNe HG8 ⊢
  have hcl5 : hs.length = en5 := hh
  have hsrc0 : (hs.drop (k + 1)).flatMap EH.vals = (hs.flatMap EH.vals).drop ((k + 1) * 7) := (flatMap_drop (f := EH.vals) (s := 7) EH.len hs (k + 1)).symm
  obtain ⟨news, hnews⟩ : ∃ news, news = (hs.drop (k + 1)).flatMap EH.vals := ⟨_, rfl⟩
  have hlen : news.length = (en5 - (k + 1)) * 7 := by rw [hnews, flatMap_len EH.vals 7 EH.len, List.length_drop, hcl5]
  have hcell : ∀ j u, news[j]? = some u → w2.cell? ⟨g, (k + 1) * 7 + j, none⟩ = some u := fun j u hu => by
    have hj : j < (en5 - (k + 1)) * 7 := by rw [← hlen]; exact (List.getElem?_eq_some_iff.1 hu).1
    rw [hown.cellAt ((k + 1) * 7 + j) (by omega), ← List.getElem?_drop, ← hsrc0, ← hnews, hu]
  obtain ⟨A, hA, hsrc⟩ : ∃ A : Addr, (if ec = k + 1 then (some ⟨g, 0, none⟩ : Option Addr) else some ⟨g, (k + 1) * 7, none⟩) = some A ∧ (∀ j u, news[j]? = some u → w2.cell? (A.add j) = some u) := by
    by_cases h : ec = k + 1
    · refine ⟨⟨g, 0, none⟩, by rw [if_pos h], fun j u hu => ?_⟩
      have h0 : news.length = 0 := by rw [hlen]; omega
      rw [List.length_eq_zero_iff.1 h0] at hu
      simp at hu
    · exact ⟨⟨g, (k + 1) * 7, none⟩, by rw [if_neg h], fun j u hu => by rw [Addr.add_mid]; exact hcell j u hu⟩
  have HBg := Lib.hid hBb
  have HLn := Lib.hid hlen
  have HSrc := Lib.hid hsrc
  have HOne : Hid (∀ u ∈ news, u.oneCell' = true) := by
    show ∀ u ∈ news, _
    rw [hnews]
    exact flatMap_one EH.ones _
  have HFit : Hid (k * 7 + news.length ≤ cur.size) := by show _ ≤ _; rw [hlen, hcs]; omega
  obtain ⟨cur2, hcur2⟩ : ∃ cur2, cur2 = (cur.toList.take (k * 7) ++ news ++ cur.toList.drop (k * 7 + news.length)).toArray := ⟨_, rfl⟩
  have hcs2 : cur2.size = cur.size := by
    have := HFit.out
    rw [hcur2]; simp; omega
  have hkc : k ≤ ec := by omega
  have hk1 : k + 1 ≤ ec := by omega
  have hbd : 0 ≤ (k : Int) + 1 ∧ (k : Int) + 1 ≤ (en5 : Int) := by omega
  have hbe : 0 ≤ (k : Int) ∧ (k : Int) ≤ (ec : Int) := by omega
  have hw1 : IntKind.i64.wrap ((k : Int) + 1) = (k : Int) + 1 := by rw [IntKind.wrap_i64]; omega
  have HC2 := Lib.hid hcur2
  have HD := Lib.hid hnews
  have HT := Lib.hid ht
  have HW2 := Lib.hid hw2
  have HCs := Lib.hid hcs
  have hgL : w.heap.size ≤ g := by omega
  have hG8L : w.heap.size + 1 < G8 := by have := HG8.out; have := HZ1.out.lt; omega
  have HGd := Lib.hid hgd
  have HHh := Lib.hid hh
  have HHe := Lib.hid hel
  have hcn6 : cn ≤ 1000000 := by have := HO5.out.clen; have := HCln.out; dsimp only at *; omega
  clear hgd hel hh hown hcur2 hnews hsrc hcell hsrc0 hlen hw2 ht hb hBb hcs hG8
  refine wp_region_links [some 23, some 24, some 25, some 26, some 27, some 28, some 29, some 30, some 31, some 32, some 33, none] [[], [0], [], [1, 2], [], [4], [], [6], [5, 7], [3, 8], [0, 1, 2, 3, 4, 5, 6, 7, 8, 9], [10, 9, 9, 0, 1, 2, 3, 4, 5, 6, 7, 8, 9]] [9, 11] [.pointer (some ⟨G8, 6, none⟩), .slice (some ⟨g, 0, none⟩) en5 ec, .int .i64 (k : Int), .slice (some ⟨g, 0, none⟩) k ec, .pointer (some ⟨G8, 6, none⟩), .slice (some ⟨g, 0, none⟩) en5 ec, .int .i64 (k : Int), .int .i64 ((k : Int) + 1), .slice (some A) (en5 - (k + 1)) (ec - (k + 1)), undef, .pointer (some ⟨G8, 6, none⟩), undef] (RemJE g cur2 (.slice (some ⟨g, 0, none⟩) (k + (en5 - (k + 1))) ec) G8 (#[.string d.title, .string d.lang, .int .u8 d.rate, .bool d.drop, .int .i64 d.last, .slice ra rn rc, .slice (some ⟨g, 0, none⟩) (k + (en5 - (k + 1))) ec, .slice ca cn cc]) w2) (by kernel_rfl) (by kernel_rfl) (by kernel_rfl) (by kernel_rfl) (by kernel_rfl) (by kernel_rfl) (by kernel_rfl) (by decide) ?_ ?_ ?_ ?_
  · exact RemJE.start w2
  · intro i o ho hc a w' us K' hJ hF hlim hk
    match i, ho with
    | 0, ho =>
      simp only [List.getElem?_toArray, List.getElem?_cons_zero, List.getElem?_cons_succ, Option.some.injEq] at ho
      subst ho
      have e8 := hF.old 8 (.pointer (some ⟨G8, 0, none⟩)) rfl rfl
      simp only [Act.eval] at e8
      clear hF hlim hJ
      go_simp
      exact hk
    | 1, ho =>
      simp only [List.getElem?_toArray, List.getElem?_cons_zero, List.getElem?_cons_succ, Option.some.injEq] at ho
      subst ho
      have e23 := hF.pure 0 23 (.pointer (some ⟨G8, 6, none⟩)) rfl rfl rfl rfl
      have hcl : w'.cell? ⟨G8, 6, none⟩ = some (.slice (some ⟨g, 0, none⟩) en5 ec) := (hJ.blk8 (by have := hlim 1 11 rfl rfl; omega) HP5.out HNe.out).cell 6
      simp only [Act.eval] at e23
      clear hF hlim hJ
      go_simp
      exact hk
    | 2, ho =>
      simp only [List.getElem?_toArray, List.getElem?_cons_zero, List.getElem?_cons_succ, Option.some.injEq] at ho
      subst ho
      have e7 := hF.old 7 (.int .i64 (k : Int)) rfl rfl
      simp only [Act.eval] at e7
      clear hF hlim hJ
      go_simp
      exact hk
    | 3, ho =>
      simp only [List.getElem?_toArray, List.getElem?_cons_zero, List.getElem?_cons_succ, Option.some.injEq] at ho
      subst ho
      have e24 := hF.pure 1 24 (.slice (some ⟨g, 0, none⟩) en5 ec) rfl rfl rfl rfl
      have e25 := hF.pure 2 25 (.int .i64 (k : Int)) rfl rfl rfl rfl
      simp only [Act.eval] at e24 e25
      clear hF hlim hJ
      go_simp
      exact hk
    | 4, ho =>
      simp only [List.getElem?_toArray, List.getElem?_cons_zero, List.getElem?_cons_succ, Option.some.injEq] at ho
      subst ho
      have e8 := hF.old 8 (.pointer (some ⟨G8, 0, none⟩)) rfl rfl
      simp only [Act.eval] at e8
      clear hF hlim hJ
      go_simp
      exact hk
    | 5, ho =>
      simp only [List.getElem?_toArray, List.getElem?_cons_zero, List.getElem?_cons_succ, Option.some.injEq] at ho
      subst ho
      have e27 := hF.pure 4 27 (.pointer (some ⟨G8, 6, none⟩)) rfl rfl rfl rfl
      have hcl : w'.cell? ⟨G8, 6, none⟩ = some (.slice (some ⟨g, 0, none⟩) en5 ec) := (hJ.blk8 (by have := hlim 1 11 rfl rfl; omega) HP5.out HNe.out).cell 6
      simp only [Act.eval] at e27
      clear hF hlim hJ
      go_simp
      exact hk
    | 6, ho =>
      simp only [List.getElem?_toArray, List.getElem?_cons_zero, List.getElem?_cons_succ, Option.some.injEq] at ho
      subst ho
      have e7 := hF.old 7 (.int .i64 (k : Int)) rfl rfl
      simp only [Act.eval] at e7
      clear hF hlim hJ
      go_simp
      exact hk
    | 7, ho =>
      simp only [List.getElem?_toArray, List.getElem?_cons_zero, List.getElem?_cons_succ, Option.some.injEq] at ho
      subst ho
      have e29 := hF.pure 6 29 (.int .i64 (k : Int)) rfl rfl rfl rfl
      simp only [Act.eval] at e29
      clear hF hlim hJ
      go_simp
      exact hk
    | 8, ho =>
      simp only [List.getElem?_toArray, List.getElem?_cons_zero, List.getElem?_cons_succ, Option.some.injEq] at ho
      subst ho
      have e28 := hF.pure 5 28 (.slice (some ⟨g, 0, none⟩) en5 ec) rfl rfl rfl rfl
      have e30 := hF.pure 7 30 (.int .i64 ((k : Int) + 1)) rfl rfl rfl rfl
      simp only [Act.eval] at e28 e30
      clear hF hlim hJ
      go_simp
      exact hk
    | 9, ho => simp at hc
    | 10, ho =>
      simp only [List.getElem?_toArray, List.getElem?_cons_zero, List.getElem?_cons_succ, Option.some.injEq] at ho
      subst ho
      have e8 := hF.old 8 (.pointer (some ⟨G8, 0, none⟩)) rfl rfl
      simp only [Act.eval] at e8
      clear hF hlim hJ
      go_simp
      exact hk
    | 11, ho => simp at hc
    | i + 12, ho => simp at ho
  · intro p c' o hp ho a w' us K' hl hJ hF hk
    match p, hp with
    | 0, hp =>
      obtain rfl : 9 = c' := by simpa using hp
      simp only [List.getElem?_toArray, List.getElem?_cons_zero, List.getElem?_cons_succ, Option.some.injEq] at ho
      subst ho
      obtain rfl : us = [] := List.eq_nil_of_length_eq_zero hl
      have e26 := hF.pure 3 26 (.slice (some ⟨g, 0, none⟩) k ec) rfl rfl rfl rfl
      have e31 := hF.pure 8 31 (.slice (some A) (en5 - (k + 1)) (ec - (k + 1))) rfl rfl rfl rfl
      exact wp_append_room (.tmp 26) (.tmp 31) 24 rfl info_evtI Tryz.underlying24 (HBg.out.ext (hJ.nil rfl)) e26 e31 HLn.out (fun j u hu => (hJ.nil rfl).cell (HSrc.out j u hu)) HOne.out (by omega) HFit.out (by rw [← HC2.out]; exact hk _ _ hJ.app)
    | 1, hp =>
      obtain rfl : 11 = c' := by simpa using hp
      simp only [List.getElem?_toArray, List.getElem?_cons_zero, List.getElem?_cons_succ, Option.some.injEq] at ho
      subst ho
      obtain ⟨u0, rfl⟩ := list_1 hl
      obtain ⟨rfl, w5, hx5, rfl⟩ := hJ.one u0 rfl
      have e33 := hF.pure 10 33 (.pointer (some ⟨G8, 6, none⟩)) rfl rfl rfl rfl
      have e32 := hF.link 0 9 32 _ rfl rfl rfl rfl
      have hB8 := (HP5.out.ext hx5).put_other (t' := 66) HNe.out cur2
      have hs := setCell_put hB8 6 (.slice (some ⟨g, 0, none⟩) (k + (en5 - (k + 1))) ec)
      have hc := hB8.cell 6
      have hf := hB8.frozen 6
      simp only [Act.eval] at e32 e33
      simp at hs hc
      have HK := Lib.hid (hk (.tuple #[]) _ (hJ.sto hx5))
      clear hk hF hJ hB8
      go_simp
      exact HK.out
    | p + 2, hp => simp at hp
  intro us w9 hl hJ
  obtain ⟨u0, u1, rfl⟩ := list_2 hl
  first | (rename_i hK; refine hK _ _ ?_; clear hK) | (rename_i hK hK_1; refine hK _ _ ?_; clear hK) | (rename_i hK hK_1 hK_2; refine hK _ _ ?_; clear hK) | (rename_i hK hK_1 hK_2 hK_3; refine hK _ _ ?_; clear hK)
  generalize hL : frameL _ _ _ _ = L
  obtain rfl : L = [(23, .pointer (some ⟨G8, 6, none⟩)), (24, .slice (some ⟨g, 0, none⟩) en5 ec), (25, .int .i64 (k : Int)), (26, .slice (some ⟨g, 0, none⟩) k ec), (27, .pointer (some ⟨G8, 6, none⟩)), (28, .slice (some ⟨g, 0, none⟩) en5 ec), (29, .int .i64 (k : Int)), (30, .int .i64 ((k : Int) + 1)), (31, .slice (some A) (en5 - (k + 1)) (ec - (k + 1))), (32, u0), (33, .pointer (some ⟨G8, 6, none⟩))] := hL.symm.trans (by kernel_rfl)
  clear hL hl
  simp only [Act.put, List.foldl_cons, List.foldl_nil, List.setIfInBounds_toArray, List.set_cons_zero, List.set_cons_succ]

  obtain ⟨rfl, w5', hx5, rfl⟩ := hJ.two u0 u1 rfl
  clear hJ
  rw [show k + (en5 - (k + 1)) = en5 - 1 by omega]
  have HX6 := Lib.hid (((HX5.out.trans hx5).put (g := g) hgL 66 cur2).put (g := G8) (by omega) 27 (#[.string d.title, .string d.lang, .int .u8 d.rate, .bool d.drop, .int .i64 d.last, .slice ra rn rc, .slice (some ⟨g, 0, none⟩) (en5 - 1) ec, .slice ca cn cc]))
  have HP6 := Lib.hid (((HP5.out.ext hx5).put_other (t' := 66) HNe.out cur2).put (#[.string d.title, .string d.lang, .int .u8 d.rate, .bool d.drop, .int .i64 d.last, .slice ra rn rc, .slice (some ⟨g, 0, none⟩) (en5 - 1) ec, .slice ca cn cc]))
  have HZ6 := Lib.hid (((HZ5.out.ext hx5).put_other (t' := 66) (g' := g) (by omega) cur2).put_other (t' := 27) (g' := G8) (by omega) (#[.string d.title, .string d.lang, .int .u8 d.rate, .bool d.drop, .int .i64 d.last, .slice ra rn rc, .slice (some ⟨g, 0, none⟩) (en5 - 1) ec, .slice ca cn cc]))
  have HBg6 := HBg.out.ext hx5
  have hO := HO5.out.ext hx5
  have hrow : (putB w5' g 66 cur2).ownsRow w1.heap.size 66 7 (.slice (some ⟨g, 0, none⟩) (en5 - 1) ec) (en5 - 1) ((hs.take k ++ hs.drop (k + 1)).flatMap EH.vals) := by
    refine ⟨?_, .inr ⟨g, ec, cur2, rfl, hg, HBg6.put cur2, by omega, hcm, by have := HCs.out; omega, ?_⟩⟩
    · rw [flatMap_len EH.vals 7 EH.len, List.length_append, List.length_take, List.length_drop, hcl5]
      omega
    · have e1 : cur.toList.take (k * 7) = (hs.take k).flatMap EH.vals := by
        rw [← flatMap_take (f := EH.vals) (s := 7) EH.len hs k, ← HT.out, List.take_take, Nat.min_eq_left (by omega)]
      have e2 : ((hs.take k).flatMap EH.vals ++ (hs.drop (k + 1)).flatMap EH.vals).length = (en5 - 1) * 7 := by
        rw [← List.flatMap_append, flatMap_len EH.vals 7 EH.len, List.length_append, List.length_take, List.length_drop, hcl5]
        omega
      rw [HC2.out, HD.out, e1, List.flatMap_append]
      dsimp only
      rw [List.take_append_of_le_length (by rw [e2]; exact Nat.le_refl _), ← e2, List.take_length]
  have hO6 : DocOwn (putB w5' g 66 cur2) w1.heap.size (d.cutE k) ⟨ra, rn, rc, some ⟨g, 0, none⟩, en5 - 1, ec, ca, cn, cc⟩ :=
    ⟨own_kb hO.regs (KB.put HBg6 (by decide)), hO.rlen, EvsOwn.cut HHh.out HHe.out HGd.out hcn5 ((KB.ext hx5).trans (KB.put (T := 87) HBg6 (by decide))) ((KB.ext hx5).trans (KB.put (T := 84) HBg6 (by decide))) hrow, own_kb hO.coms (KB.put HBg6 (by decide)), hO.clen⟩
  have HO6 := Lib.hid (hO6.put ((HP5.out.ext hx5).put_other (t' := 66) HNe.out cur2) (#[.string d.title, .string d.lang, .int .u8 d.rate, .bool d.drop, .int .i64 d.last, .slice ra rn rc, .slice (some ⟨g, 0, none⟩) (en5 - 1) ec, .slice ca cn cc]))
  clear hO hO6 HBg6 hrow HC HX5 HP5 HZ5 HO5 hx5
  obtain ⟨W6, hW6⟩ : ∃ W6, W6 = putB (putB w5' g 66 cur2) G8 27 (#[.string d.title, .string d.lang, .int .u8 d.rate, .bool d.drop, .int .i64 d.last, .slice ra rn rc, .slice (some ⟨g, 0, none⟩) (en5 - 1) ec, .slice ca cn cc]) := ⟨_, rfl⟩
  rw [← hW6] at HX6 HP6 HZ6 HO6 ⊢
  clear hW6
  have hcnn : cn = nc := by have := HO6.out.clen; have := HCln.out; dsimp only at *; show cn = nc; have h9 : (d.cutE k).coms.length = d.coms.length := rfl; omega
  subst hcnn
  have hcp := fun o => HP6.out.cell o
  have hfp := fun o => HP6.out.frozen o
  go_upto_region 9 with fail
  go_wp2_with fail
  refine (HLs.out _ _ _ HO6.out.at_.coms).mono ?_
  rintro en w7 ⟨A7, c7, rfl, hown7, hx7⟩
  have HX7 := Lib.hid (HX6.out.trans hx7)
  have HP7 := Lib.hid (HP6.out.ext hx7)
  have HZ7 := Lib.hid (HZ6.out.ext hx7)
  have hO7 := HO6.out.ext hx7
  have hle := HX6.out.size
  have hsw : w1.heap.size ≤ W6.heap.size := by have := HP6.out.lt; have := HG8.out; omega
  have HO7 : Hid (DocOwn w7 w1.heap.size ((d.cutE k).withComs (d.coms.map (Com.loseR id))) ⟨ra, rn, rc, some ⟨g, 0, none⟩, en5 - 1, ec, A7, cn, c7⟩) := ⟨hO7.regs, hO7.rlen, hO7.evs, own_le hown7 hsw, by show (d.coms.map _).length = _; rw [List.length_map]; exact hO7.clen⟩
  clear hcp hfp hO7 hown7 hx7
  have hs7 := setCell_put HP7.out 7 (.slice A7 cn c7)
  have hc7 := HP7.out.cell 7
  have hf7 := HP7.out.frozen 7
  simp at hs7 hc7
  have HP8 := Lib.hid (HP7.out.put #[.string d.title, .string d.lang, .int .u8 d.rate, .bool d.drop, .int .i64 d.last, .slice ra rn rc, .slice (some ⟨g, 0, none⟩) (en5 - 1) ec, .slice A7 cn c7])
  have HZ8 := Lib.hid (HZ7.out.put_other (g' := G8) (t' := 27) (by omega) #[.string d.title, .string d.lang, .int .u8 d.rate, .bool d.drop, .int .i64 d.last, .slice ra rn rc, .slice (some ⟨g, 0, none⟩) (en5 - 1) ec, .slice A7 cn c7])
  have HX8 := Lib.hid (HX7.out.put (g := G8) (by omega) 27 #[.string d.title, .string d.lang, .int .u8 d.rate, .bool d.drop, .int .i64 d.last, .slice ra rn rc, .slice (some ⟨g, 0, none⟩) (en5 - 1) ec, .slice A7 cn c7])
  have HO8 := Lib.hid (HO7.out.put HP7.out #[.string d.title, .string d.lang, .int .u8 d.rate, .bool d.drop, .int .i64 d.last, .slice ra rn rc, .slice (some ⟨g, 0, none⟩) (en5 - 1) ec, .slice A7 cn c7])
  go_wp2_with (first | (refine wpList_loadB rfl 27 (.tmp 8) rfl (G8) 27 _ _ (by exact rfl) (by exact HP8.out) Tryz.underlying27 rfl (by exact size_docI) ?_) | (refine wpList_storeB rfl 27 (.tmp 4) _ rfl (w.heap.size + 1) 27 _ _ (by exact rfl) (by exact rfl) (by exact HZ8.out) (by exact rfl) (by exact size_docI) (by simp [Value.oneCell']) ?_))
  refine bodyPost_ret (v := .tuple #[.agg ((d.remRX id).1.cells ⟨ra, rn, rc, some ⟨g, 0, none⟩, en5 - 1, ec, A7, cn, c7⟩), .int .i64 (d.remRX id).2]) ?_ rfl ⟨⟨ra, rn, rc, some ⟨g, 0, none⟩, en5 - 1, ec, A7, cn, c7⟩, rfl, ?_, ?_⟩
  · rw [HR1.out]
    exact results_B_tmp (P := Tryz.prog) Tryz.results31 (g := w.heap.size + 1) rfl (by exact HZ8.out.put _) Tryz.underlying27 rfl size_docI
  · rw [HR1.out]
    exact (HO8.out.le hsz).put HZ8.out _
  · exact HX8.out.put (by omega) _ _
end Go.Proofs.YtagfedbdakmlgaaGreatDoor

/-! RetV -/
namespace Go.Proofs.YtagfedbdakmlgaaGreatDoor
set_option linter.unusedVariables false
set_option linter.unusedSimpArgs false
open Go.RowKit
section
variable {d : Doc} {b m : Int} {drop : Bool}
/-- what a comment that is not lost must have -/
def Com.Good (c : Com) (evs : List Ev) : Prop := (∃ k e, findE evs c.ev = some k ∧ evs[k]? = some e ∧ 0 ≤ c.fr ∧ c.fr < c.til ∧ c.til ≤ e.len) ∧ nameB c.author = true ∧ vld c.text = true ∧ c.text.toList.isEmpty = false ∧ c.text.size ≤ 400
end
end Go.Proofs.YtagfedbdakmlgaaGreatDoor

/-! RegionInv -/
namespace Go.Proofs.YtagfedbdakmlgaaGreatDoor
set_option linter.unusedVariables false
set_option linter.unusedSimpArgs false
open Go.RowKit
/-- what the region 'a, b := Clone(e), Clone(e)' keeps, whatever has been done of it -/
def C2Inv (mk : Value → Value → Value → Value → Value → Value → Act) (e : Ev) (A : Option Addr) (n c : Nat) (W : World) (l : Array Bool) (a : Act) (w : World) : Prop :=
  l.size = 8 ∧ Ext W w ∧ ∃ v1 v2 v3 v4 va vb : Value, a = mk v1 v2 v3 v4 va vb ∧ (l.getD 0 false = true → v1 = .agg (e.cells A n c)) ∧ (l.getD 2 false = true → v3 = .agg (e.cells A n c)) ∧
    (l.getD 1 false = true → ∃ A1 c1, v2 = .agg (e.cells A1 n c1) ∧ n ≤ c1 ∧ RowsFresh w W.heap.size A1 n e.rows) ∧ (l.getD 3 false = true → ∃ A1 c1, v4 = .agg (e.cells A1 n c1) ∧ n ≤ c1 ∧ RowsFresh w W.heap.size A1 n e.rows) ∧
    (l.getD 4 false = true → ∃ g cs, va = .pointer (some ⟨g, 0, none⟩) ∧ W.heap.size ≤ g ∧ Blk w g 66 cs ∧ cs.size = 7 ∧ (l.getD 6 false = true → v2 = .agg cs)) ∧
    (l.getD 5 false = true → ∃ g cs, vb = .pointer (some ⟨g, 0, none⟩) ∧ W.heap.size ≤ g ∧ Blk w g 66 cs ∧ cs.size = 7 ∧ (l.getD 7 false = true → v4 = .agg cs)) ∧
    (l.getD 4 false = true → l.getD 5 false = true → va ≠ vb) ∧ (l.getD 6 false = true → l.getD 1 false = true) ∧ (l.getD 7 false = true → l.getD 3 false = true) ∧ (l.getD 6 false = true → l.getD 4 false = true) ∧ (l.getD 7 false = true → l.getD 5 false = true)
/-- a frame with six slots written -/
def put6 (a : Act) (x1 x2 x3 x4 sa sb : Nat) (v1 v2 v3 v4 va vb : Value) : Act :=
  { a with tmps := (((((a.tmps.setIfInBounds x1 v1).setIfInBounds x2 v2).setIfInBounds x3 v3).setIfInBounds x4 v4).setIfInBounds sa va).setIfInBounds sb vb }
end Go.Proofs.YtagfedbdakmlgaaGreatDoor

/-! Split -/
namespace Go.Proofs.YtagfedbdakmlgaaGreatDoor
set_option linter.unusedVariables false
set_option linter.unusedSimpArgs false
open Go.RowKit
/-- the error of a split -/
def Ev.splitErr (e : Ev) (frame : Int) (row : Int) (id : Int) : Int :=
  if row < 1 ∨ (e.rows.length : Int) ≤ row then 1
  else if frame ≤ e.inn ∨ e.out ≤ frame ∨ id < 1 ∨ 1099511627776 < id then 2
  else if id = e.id then 7 else 0
def Ev.left (e : Ev) (frame : Int) (row : Nat) : Ev := { e with out := frame, rows := e.rows.take row }
def Ev.right (e : Ev) (frame : Int) (row : Nat) (id : Int) : Ev := { e with id := id, inn := frame, rows := e.rows.drop row }
def Ev.zero : Ev := ⟨0, 0, 0, ⟨#[]⟩, 0, ⟨#[]⟩, []⟩
def Ev.splitL (e : Ev) (frame row id : Int) : Ev := if e.splitErr frame row id = 0 then e.left frame row.toNat else Ev.zero
def Ev.splitR (e : Ev) (frame row id : Int) : Ev := if e.splitErr frame row id = 0 then e.right frame row.toNat id else Ev.zero
/-- what a split comes to -/
def SplitPost (e : Ev) (frame row id : Int) (w : World) (en : Ending) (w' : World) : Prop :=
  ∃ A1 n1 c1 A2 n2 c2, en = .returned (.tuple #[.agg ((e.splitL frame row id).cells A1 n1 c1), .agg ((e.splitR frame row id).cells A2 n2 c2), .int .i64 (e.splitErr frame row id)]) ∧
    n1 ≤ c1 ∧ n2 ≤ c2 ∧ n1 ≤ e.rows.length ∧ n2 ≤ e.rows.length ∧ RowsFresh w' w.heap.size A1 n1 (e.splitL frame row id).rows ∧ RowsFresh w' w.heap.size A2 n2 (e.splitR frame row id).rows ∧ Ext w w'
theorem RowsFresh.nil (w : World) (L c : Nat) : RowsFresh w L none 0 [] := ⟨[], Sl.nil, fun i h r a b => by simp at a, rfl, fun ad h => (by cases h), fun x hx => (by cases hx)⟩
def SplitErrs (k : Int) (w : World) (en : Ending) (w' : World) : Prop := en = .returned (.tuple #[.agg evZero, .agg evZero, .int .i64 k]) ∧ Ext w w'
theorem SplitErrs.post {e : Ev} {frame row id : Int} {w : World} {en : Ending} {w' : World} (h : SplitErrs (e.splitErr frame row id) w en w') (hk : e.splitErr frame row id ≠ 0) : SplitPost e frame row id w en w' := by
  have e1 : e.splitL frame row id = Ev.zero := if_neg hk
  have e2 : e.splitR frame row id = Ev.zero := if_neg hk
  refine ⟨none, 0, 0, none, 0, 0, ?_, Nat.le_refl _, Nat.le_refl _, Nat.zero_le _, Nat.zero_le _, ?_, ?_, h.2⟩
  · rw [e1, e2]; exact h.1
  · rw [e1]; exact RowsFresh.nil _ _ 0
  · rw [e2]; exact RowsFresh.nil _ _ 0
/-- the cases of a split that fails -/
inductive SplitBad (e : Ev) (frame row id : Int) : Int → Prop
  | low : (row < 1) → SplitBad e frame row id 1
  | high : 1 ≤ row → (e.rows.length : Int) ≤ row → SplitBad e frame row id 1
  | ahead : 1 ≤ row → row < e.rows.length → frame ≤ e.inn → SplitBad e frame row id 2
  | behind : 1 ≤ row → row < e.rows.length → e.inn < frame → e.out ≤ frame → SplitBad e frame row id 2
  | idLow : 1 ≤ row → row < e.rows.length → e.inn < frame → frame < e.out → id < 1 → SplitBad e frame row id 2
  | idHigh : 1 ≤ row → row < e.rows.length → e.inn < frame → frame < e.out → 1 ≤ id → 1099511627776 < id → SplitBad e frame row id 2
  | same : 1 ≤ row → row < e.rows.length → e.inn < frame → frame < e.out → 1 ≤ id → id ≤ 1099511627776 → id = e.id → SplitBad e frame row id 7
end Go.Proofs.YtagfedbdakmlgaaGreatDoor

/-! JoinA -/
namespace Go.Proofs.YtagfedbdakmlgaaGreatDoor
set_option linter.unusedVariables false
set_option linter.unusedSimpArgs false
open Go.RowKit
def Ev.joinErr (x y : Ev) : Int := if lessB x y = false then 8 else if 4 < x.rows.length + y.rows.length then 9 else 0
def Ev.joined (x y : Ev) : Ev := { x with inn := min x.inn y.inn, out := max x.out y.out, rows := x.rows ++ y.rows }
def Ev.join (x y : Ev) : Ev := if x.joinErr y = 0 then x.joined y else Ev.zero
def JoinPost (x y : Ev) (w : World) (en : Ending) (w' : World) : Prop :=
  ∃ A n c, en = .returned (.tuple #[.agg ((x.join y).cells A n c), .int .i64 (x.joinErr y)]) ∧ n ≤ c ∧ n ≤ 4 ∧ RowsFresh w' w.heap.size A n (x.join y).rows ∧ Ext w w'
theorem run_appendS {α : Type} {f : α → List Value} {P : Program} (w : World) (t ty : TypeId) {base : Nat} {e : TypeId} {z : Value} {size bytes : Nat} (inf : (P.info? e).map (fun i => (i.zero, i.size, i.bytes)) = some (some z, size, bytes)) (ht : P.underlying t = some (.slice e)) (hzs : z.cells.size = size) (hsz : 0 < size)
    {v : Value} {n : Nat} {xs : List Value} (hown : w.ownsRow base e size v n xs) {A : Option Addr} {m c : Nat} {l : List α} (hS : Sl w size (Cells f) A m l) (hf : ∀ x, (f x).length = size) (h1 : ∀ x, ∀ u ∈ f x, u.oneCell' = true)
    (hroom : (n + m) * bytes ≤ 140737488355328) (hmax : n + m ≤ maxLen) (hbase : base ≤ w.heap.size) :
    ∃ v' w', (Builtin.append_ #[t, t] ty #[v, .slice A m c]).run P w = .ok v' w' ∧ w'.ownsRow base e size v' (n + m) (xs ++ l.flatMap f) ∧ w.grownBy w' v.ownBlock := by
  obtain ⟨i, hi, hz0, hz1, hz2⟩ := info_parts inf
  have hlen : (l.flatMap f).length = m * size := by rw [flatMap_len f size hf, hS.len]
  cases A with
  | none =>
    have hm : m = 0 := by
      rcases Nat.eq_zero_or_pos m with h0 | h0
      · exact h0
      · obtain ⟨_, _, h, _⟩ := hS.2 h0
        cases h
    subst hm
    obtain rfl : l = [] := List.eq_nil_of_length_eq_zero hS.len
    exact ⟨v, w, run_append_of_nil (P := P) w base t ty e i size ht hi v n xs hown c, by simpa using hown, World.grownBy.refl w _⟩
  | some ad =>
    obtain ⟨v', w', hrun, h2, h3, _, h5⟩ := run_append_own_at (P := P) w base t ty e i z size bytes ht hi hz0 hz1 hz2 hzs hsz v n xs hown ad m c (l.flatMap f) hlen (fun j u hu => by
      rcases Nat.eq_zero_or_pos m with h0 | h0
      · subst h0
        obtain rfl : l = [] := List.eq_nil_of_length_eq_zero hS.len
        simp at hu
      · obtain ⟨b, off, hA, hc⟩ := hS.2 h0
        cases hA
        exact sl_news hf hS.len hc j u hu) (flatMap_one h1 l) hmax hroom hbase
    exact ⟨v', w', hrun, h2, h3⟩
theorem wp_appendS {α : Type} {f : α → List Value} {P : Program} {o : Oper} {a : Act} {w : World} {K : Act → World → Prop} {Q : Exit → Act → World → Prop} (s x : Operand) (t : TypeId)
    (ho : o.op = .call { callee := .builtin .append, args := #[s, x], argTypes := #[t, t] })
    {base : Nat} {e : TypeId} {z : Value} {size bytes : Nat} (inf : (P.info? e).map (fun i => (i.zero, i.size, i.bytes)) = some (some z, size, bytes)) (ht : P.underlying t = some (.slice e)) (hzs : z.cells.size = size) (hsz : 0 < size)
    {v : Value} {n : Nat} {xs : List Value} (hown : w.ownsRow base e size v n xs) (hs : a.eval s = v) {A : Option Addr} {m c : Nat} {l : List α} (hx : a.eval x = .slice A m c) (hS : Sl w size (Cells f) A m l) (hf : ∀ x, (f x).length = size) (h1 : ∀ x, ∀ u ∈ f x, u.oneCell' = true)
    (hroom : (n + m) * bytes ≤ 140737488355328) (hmax : n + m ≤ maxLen) (hbase : base ≤ w.heap.size)
    (h : ∀ v' w', w'.ownsRow base e size v' (n + m) (xs ++ l.flatMap f) → w.grownBy w' v.ownBlock → K (a.put o.dst v') w') : o.wp P a w K Q := by
  obtain ⟨v', w', hrun, h2, h3⟩ := run_appendS (P := P) w t o.type inf ht hzs hsz hown (c := c) hS hf h1 hroom hmax hbase
  unfold Oper.wp execOp
  simp only [ho, resolve, invoke, builtin, Sem.run_bind, Sem.run_pure, Result.andThen_ok, List.map_toArray, List.map_cons, List.map_nil, hs, hx, hrun]
  exact h v' w' h2 h3
/-- a block of another type is as it was behind an append -/
theorem Blk.grown {w w1 : World} {g : Nat} {t T : TypeId} {cs : Array Value} {row : Option Nat} (h : Blk w g t cs) (hg : w.grownBy w1 row) (hr : ∀ q, row = some q → Typed w T q) (hne : t ≠ T) : Blk w1 g t cs := by
  refine (hg.block g h.lt (fun e => ?_)).trans h
  exact Typed.ne h.typed (hr g e.symm) hne rfl
end Go.Proofs.YtagfedbdakmlgaaGreatDoor

/-! RetPlain -/
namespace Go.Proofs.YtagfedbdakmlgaaGreatDoor
set_option linter.unusedVariables false
set_option linter.unusedSimpArgs false
open Go.RowKit
theorem lensErr_zero {r : Reg} : ∀ {l : List Int}, r.lensErr l = 0 → ∀ x ∈ l, 0 ≤ x ∧ x ≤ r.width
  | [], _, x, hx => by cases hx
  | n :: l, h, x, hx => by
    unfold Reg.lensErr at h
    split at h
    · omega
    · split at h
      · omega
      · rcases List.mem_cons.1 hx with rfl | hx
        · omega
        · exact lensErr_zero h x hx
theorem rowsErr_zero : ∀ {l : List Row}, rowsErr l = 0 → ∀ r ∈ l, rowErrE r = 0
  | [], _, r, hr => by cases hr
  | x :: l, h, r, hr => by
    unfold rowsErr at h
    split at h
    · rename_i hx
      rcases List.mem_cons.1 hr with rfl | hr
      · exact hx
      · exact rowsErr_zero h r hr
    · rename_i hx; exact absurd h hx
/-- what a valid event is -/
structure Ev.Ok (e : Ev) (regs : List Reg) : Prop where
  id1 : 1 ≤ e.id
  id2 : e.id ≤ 1099511627776
  span : spansB e.inn e.out = true
  found : ∃ r, findR regs e.region = some r ∧ r.usable = true ∧ (e.rows.length : Int) ≤ r.height ∧ ∀ x ∈ e.rows, 0 ≤ rowLen x ∧ rowLen x ≤ r.width
  kind : noKind e.kind = false
  name : ¬ (e.speaker.toList.isEmpty = false ∧ nameB e.speaker = false)
  some_ : e.rows.length ≠ 0
  few : e.rows.length ≤ 4
  rows : ∀ r ∈ e.rows, rowErrE r = 0
theorem Ev.ok_of {e : Ev} {regs : List Reg} (h : e.err regs = 0) : e.Ok regs := by
  unfold Ev.err at h
  split at h
  · omega
  · rename_i h1
    split at h
    · omega
    · rename_i r hr
      split at h
      · omega
      · rename_i h2
        split at h
        · omega
        · rename_i h3
          split at h
          · omega
          · rename_i h4
            split at h
            · rename_i h5; exact absurd h h5
            · rename_i h5
              unfold Reg.place at h
              split at h
              · omega
              · rename_i h6
                split at h
                · omega
                · rename_i h7
                  have hz := lensErr_zero h
                  refine ⟨by omega, by omega, by cases hs : spansB e.inn e.out <;> simp_all, ⟨r, hr, by simpa using h6, by simpa using h7, fun x hx => hz _ (List.mem_map.2 ⟨x, hx, rfl⟩)⟩, by simpa using h2, h3, by omega, by omega, rowsErr_zero (by simpa using h5)⟩
/-- an event with some of the rows of a valid one -/
theorem Ev.Ok.part {e f : Ev} {regs : List Reg} (h : e.Ok regs) (h1 : 1 ≤ f.id) (h2 : f.id ≤ 1099511627776) (h3 : spansB f.inn f.out = true) (hr : f.region = e.region) (hk : f.kind = e.kind) (hs : f.speaker = e.speaker) (hl : f.rows.length ≠ 0) (hle : f.rows.length ≤ e.rows.length) (hsub : ∀ r ∈ f.rows, r ∈ e.rows) : f.Ok regs := by
  obtain ⟨_, _, _, ⟨r, hr', hu, hh, hw⟩, h4, h5, h6, h7, h8⟩ := h
  exact ⟨h1, h2, h3, ⟨r, by rw [hr]; exact hr', hu, by omega, fun x hx => hw x (hsub x hx)⟩, by rw [hk]; exact h4, by rw [hs]; exact h5, hl, by omega, fun x hx => h8 x (hsub x hx)⟩
theorem lenSum_of : ∀ {l : List Int} (s : Int), (∀ x ∈ l, 0 ≤ x) → lenSum s l = s + l.sum
  | [], s, _ => by simp [lenSum]
  | n :: l, s, h => by
    have h1 := h n (List.mem_cons_self ..)
    unfold lenSum
    rw [if_neg (by omega), lenSum_of (s + n) fun x hx => h x (List.mem_cons_of_mem _ hx), List.sum_cons]
    omega
theorem Ev.Ok.len {e : Ev} {regs : List Reg} (h : e.Ok regs) : e.len = (e.rows.length : Int) - 1 + (e.rows.map rowLen).sum := by
  obtain ⟨_, _, _, hw⟩ := h.found
  unfold Ev.len
  rw [lenSum_of _ (fun x hx => by obtain ⟨y, hy, rfl⟩ := List.mem_map.1 hx; exact (hw.2 y hy).1)]
  have := h.some_
  omega
theorem Ev.Ok.frames {e : Ev} {regs : List Reg} (h : e.Ok regs) : e.frames = e.out - e.inn := by unfold Ev.frames; rw [if_pos h.span]
end Go.Proofs.YtagfedbdakmlgaaGreatDoor

/-! ShP -/
namespace Go.Proofs.YtagfedbdakmlgaaGreatDoor
set_option linter.unusedVariables false
set_option linter.unusedSimpArgs false
open Go.RowKit
def Ev.mv (fr sh : Int) (e : Ev) : Ev := if e.inn < fr then e else ⟨e.id, e.inn + sh, e.out + sh, e.region, e.kind, e.speaker, e.rows⟩
def Ev.mvBad (fr sh : Int) (e : Ev) : Bool := decide (¬ e.inn < fr ∧ (e.inn + sh < 0 ∨ 5184000 < e.out + sh))
def Doc.withEvs (d : Doc) (l : List Ev) : Doc := ⟨d.title, d.lang, d.rate, d.drop, d.last, d.regs, l, d.coms⟩
/-- what Shift comes to -/
def Doc.shX (d : Doc) (fr sh : Int) : DE :=
  if d.err ≠ 0 then (Doc.zero, d.err) else if sh < -5184000 ∨ 5184000 < sh then (Doc.zero, 2) else if d.evs.any (Ev.mvBad fr sh) = true then (Doc.zero, 2) else (d.withEvs (srtE (d.evs.map (Ev.mv fr sh))), 0)
section
variable {d : Doc} {fr sh : Int}
theorem sh_1 (h : d.err ≠ 0) : d.shX fr sh = (Doc.zero, d.err) := by unfold Doc.shX; rw [if_pos h]
theorem sh_2 (h : d.err = 0) (h2 : sh < -5184000 ∨ 5184000 < sh) : d.shX fr sh = (Doc.zero, 2) := by unfold Doc.shX; rw [if_neg (by simpa using h), if_pos h2]
theorem sh_3 (h : d.err = 0) (h3 : d.evs.any (Ev.mvBad fr sh) = true) : d.shX fr sh = (Doc.zero, 2) := by
  unfold Doc.shX; rw [if_neg (by simpa using h)]
  rw [if_pos h3]
  split <;> rfl
theorem sh_4 (h : d.err = 0) (h2 : ¬ (sh < -5184000 ∨ 5184000 < sh)) (h3 : d.evs.any (Ev.mvBad fr sh) = false) : d.shX fr sh = (d.withEvs (srtE (d.evs.map (Ev.mv fr sh))), 0) := by unfold Doc.shX; rw [if_neg (by simpa using h), if_neg h2, if_neg (by rw [h3]; decide)]
theorem evs_in {k : Nat} {e : Ev} (h : d.err = 0) (hk : d.evs[k]? = some e) : 0 ≤ e.inn ∧ e.inn < e.out ∧ e.out ≤ 5184000 := by
  have h1 := (Ev.ok_of (evs_ok (doc_ok h).2.2.2.1 k e hk).1).span
  unfold spansB at h1
  exact of_decide_eq_true h1
theorem mv_bad {k : Nat} {e : Ev} (hk : d.evs[k]? = some e) (h : Ev.mvBad fr sh e = true) : d.evs.any (Ev.mvBad fr sh) = true := List.any_eq_true.2 ⟨e, List.mem_of_getElem? hk, h⟩
end
theorem any_next {α : Type} {p : α → Bool} {l : List α} {k : Nat} {x : α} (hk : l[k]? = some x) (h : (l.take k).any p = false) (hx : p x = false) : (l.take (k + 1)).any p = false := by
  rw [take_snoc' l k x hk, List.any_append, h, List.any_cons, hx]; rfl
theorem upd_step {α : Type} (f : α → α) (l : List α) (i : Nat) (c : α) (h : l[i]? = some c) : ((l.take i).map f ++ l.drop i)[i]? = some c ∧ ∀ c' : α, ((l.take i).map f ++ l.drop i).set i c' = (l.take i).map f ++ c' :: l.drop (i + 1) := by
  have hi := (List.getElem?_eq_some_iff.1 h).1
  have hl : ((l.take i).map f).length = i := by rw [List.length_map, List.length_take]; omega
  constructor
  · rw [List.getElem?_append_right (by omega), hl, Nat.sub_self, drop_at l i c h]; rfl
  · intro c'
    rw [List.set_append_right _ _ (by omega), hl, Nat.sub_self, drop_at l i c h]
    rfl
theorem upd_next {α : Type} (f : α → α) (l : List α) (i : Nat) (c : α) (h : l[i]? = some c) : (l.take (i + 1)).map f ++ l.drop (i + 1) = (l.take i).map f ++ f c :: l.drop (i + 1) := by
  rw [take_snoc' l i c h, List.map_append, List.append_assoc]
  rfl
/-- one cell of a head is stored: the event's rows stay -/
theorem EvsOwn.set1 {w : World} {L g n c k j : Nat} {e e' : Ev} {u : Value} {l : List Ev} (h : EvsOwn w L (.slice (some ⟨g, 0, none⟩) n c) n l) (he : l[k]? = some e) (hv : ∀ (A : Option Addr) (n c : Nat), (EH.of e' A n c).vals = (EH.of e A n c).vals.set j u) (hr : e'.rows = e.rows) (hj : j < 7) :
    EvsOwn (w.setCell ⟨g, k * 7 + j, none⟩ u) L (.slice (some ⟨g, 0, none⟩) n c) n (l.set k e') := by
  obtain ⟨hs, h1, h2, h3, h4⟩ := h
  have hk := (List.getElem?_eq_some_iff.1 he).1
  have hty : Typed w 66 g := own_typed h1 g rfl
  obtain ⟨x, hx⟩ : ∃ x, hs[k]? = some x := ⟨_, List.getElem?_eq_getElem (by omega)⟩
  have hg := h4 k x e hx he
  have k1 : KB 87 w (w.setCell ⟨g, k * 7 + j, none⟩ u) := KB.set hty (by decide)
  have k2 : KB 84 w (w.setCell ⟨g, k * 7 + j, none⟩ u) := KB.set hty (by decide)
  refine ⟨hs.set k (EH.of e' x.A x.n x.c), ?_, by simpa using h2, by simpa using h3, fun i y z hy hz => ?_⟩
  · rw [← flat_set EH.len hs k j x (EH.of e' x.A x.n x.c) u hx (by rw [hv x.A x.n x.c, ← hg.1]) hj]
    exact (h1.stored (k * 7 + j) u).1
  · by_cases hik : k = i
    · subst hik
      rw [List.getElem?_set_self (by omega)] at hy hz
      cases hy
      cases hz
      have hg' : EGood w L (EH.of e' x.A x.n x.c) e' := ⟨rfl, hg.2.1, hg.2.2.1, by rw [hr]; exact hg.2.2.2⟩
      exact hg'.kb k1 k2
    · rw [List.getElem?_set_ne hik] at hy hz
      exact (h4 i y z hy hz).kb k1 k2
theorem DocOwn.ev_cell {w : World} {L k j g : Nat} {d : Doc} {h : DocH} {e : Ev} {u : Value} (o : DocOwn w L d h) (hea : h.ea = some ⟨g, 0, none⟩) (he : d.evs[k]? = some e) (hu : ∀ (A : Option Addr) (n c : Nat), (EH.of e A n c).vals[j]? = some u) : w.cell? ⟨g, k * 7 + j, none⟩ = some u ∧ w.frozen? ⟨g, k * 7 + j, none⟩ = false := by
  have hj : j < 7 := (List.getElem?_eq_some_iff.1 (hu none 0 0)).1
  obtain ⟨hs, h1, h2, h3, h4⟩ := o.evs
  rw [hea] at h1
  have hty : Typed w 66 g := own_typed h1 g rfl
  have hk := (List.getElem?_eq_some_iff.1 he).1
  obtain ⟨x, hx⟩ : ∃ x, hs[k]? = some x := ⟨_, List.getElem?_eq_getElem (by omega)⟩
  have hg := h4 k x e hx he
  refine ⟨?_, hty.frozen _⟩
  rw [h1.cellAt (k * 7 + j) (by omega), flatMap_at EH.vals 7 EH.len hs k x j hx hj, hg.1]
  exact hu _ _ _
theorem DocOwn.ev_set {w : World} {L k j g : Nat} {d : Doc} {h : DocH} {e e' : Ev} {u : Value} (o : DocOwn w L d h) (hea : h.ea = some ⟨g, 0, none⟩) (he : d.evs[k]? = some e) (hv : ∀ (A : Option Addr) (n c : Nat), (EH.of e' A n c).vals = (EH.of e A n c).vals.set j u) (hr : e'.rows = e.rows) (hj : j < 7) :
    DocOwn (w.setCell ⟨g, k * 7 + j, none⟩ u) L (d.withEvs (d.evs.set k e')) h ∧ w.grownBy (w.setCell ⟨g, k * 7 + j, none⟩ u) (some g) := by
  obtain ⟨a1, a2, a3, a4, a5⟩ := o
  rw [hea] at a3
  obtain ⟨hs, h1, -⟩ := id a3
  have hT : Typed w 66 g := own_typed h1 g rfl
  have hkb : ∀ {T : TypeId}, T ≠ 66 → KB T w (w.setCell ⟨g, k * 7 + j, none⟩ u) := fun hne => KB.set hT hne
  refine ⟨⟨own_kb a1 (hkb (by decide)), a2, ?_, own_kb a4 (hkb (by decide)), a5⟩, (h1.stored (k * 7 + j) u).2⟩
  rw [hea]
  exact a3.set1 he hv hr hj
end Go.Proofs.YtagfedbdakmlgaaGreatDoor
