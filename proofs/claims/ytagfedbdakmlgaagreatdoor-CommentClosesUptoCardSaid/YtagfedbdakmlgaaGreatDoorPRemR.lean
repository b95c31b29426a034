/- The walk of the reference's Remove. -/
import Derived.Test.YtagfedbdakmlgaaGreatDoorPDelP
import Derived.Test.YtagfedbdakmlgaaGreatDoorPRemD
import Derived.Test.YtagfedbdakmlgaaGreatDoorPk09
import Derived.Test.YtagfedbdakmlgaaGreatDoorPk19
namespace Go.Proofs.YtagfedbdakmlgaaGreatDoor
set_option linter.unusedVariables false
set_option linter.unusedSimpArgs false
open Go.RowKit
/-- an append in place, then the store of the new slice into a document, in a drawn region -/
structure RemJ (g : Nat) (cur2 : Array Value) (v : Value) (G8 : Nat) (cs8 : Array Value) (W : World) (us : List Value) (w' : World) : Prop where
  nil : us = [] → Ext W w'
  one : ∀ u, us = [u] → u = v ∧ ∃ w5, Ext W w5 ∧ w' = putB w5 g 78 cur2
  two : ∀ u u1, us = [u, u1] → u = v ∧ ∃ w5, Ext W w5 ∧ w' = putB (putB w5 g 78 cur2) G8 27 cs8
section
variable {g G8 : Nat} {cur2 cs8 cs : Array Value} {v : Value} {W w' : World} {us : List Value}
theorem RemJ.start (W : World) : RemJ g cur2 v G8 cs8 W [] W.drew := ⟨fun _ => (Ext.refl W).drew, fun u h => by simp at h, fun u u1 h => by simp at h⟩
theorem RemJ.app (h : RemJ g cur2 v G8 cs8 W [] w') : RemJ g cur2 v G8 cs8 W ([] ++ [v]) (putB w' g 78 cur2) := ⟨fun h => by simp at h, fun u hu => ⟨by simpa using hu.symm, w', h.nil rfl, rfl⟩, fun u u1 h => by simp at h⟩
theorem RemJ.sto {w5 : World} {u1 : Value} (_ : RemJ g cur2 v G8 cs8 W [v] (putB w5 g 78 cur2)) (hx : Ext W w5) : RemJ g cur2 v G8 cs8 W ([v] ++ [u1]) (putB (putB w5 g 78 cur2) G8 27 cs8) := ⟨fun h => by simp at h, fun u hu => by simp at hu, fun u u1 hu => by simp at hu; exact ⟨hu.1.symm, w5, hx, rfl⟩⟩
theorem RemJ.blk8 (h : RemJ g cur2 v G8 cs8 W us w') (hl : us.length ≤ 1) (hB : Blk W G8 27 cs) (hne : g ≠ G8) : Blk w' G8 27 cs := by
  match us, hl with
  | [], _ => exact hB.ext (h.nil rfl)
  | [u], _ =>
    obtain ⟨_, w5, hx, rfl⟩ := h.one u rfl
    exact (hB.ext hx).put_other hne _
end
set_option maxRecDepth 100000 in
set_option maxHeartbeats 4000000 in
theorem R14Remove_any (d : Doc) (h : DocH) (id : Int) (w : World) (hE : Env w) (hat : DocAt w d h) (hf : DocFit d) (hrn : h.rn ≤ 9223372036854775807) (hr : h.rn * 56 ≤ 140737488355328) (hn : h.en ≤ 1000000) (hcn : h.cn ≤ 1000000) :
    Calls Tryz.prog 24 #[.agg (d.cells h), .int .i64 id] w (DEPost (d.rmX id) w) := by
  have HX : Hid (Ext w ((w.alloc (.cells (d.cells h) 27)).alloc (.cells docZero 27))) := ((Ext.refl w).alloc _).alloc _
  have HB : Hid (Blk ((w.alloc (.cells (d.cells h) 27)).alloc (.cells docZero 27)) w.heap.size 27 (d.cells h)) := (Blk.new w _ _).alloc _
  have HZ : Hid (Blk ((w.alloc (.cells (d.cells h) 27)).alloc (.cells docZero 27)) (w.heap.size + 1) 27 docZero) := Blk.new' (by simp)
  have HCk := Lib.hid (fun w' (hx : Ext w w') => R12Check_any d h w' (hE.ext hx) (hat.ext hx) hf hrn hn (by omega))
  have HFd := Lib.hid (fun w' (hx : Ext w w') => R14Find_any d h id w' (hat.coms.ext hx) hcn)
  have HCl := Lib.hid (fun w' (hx : Ext w w') => R12Clone_any d h w' (hat.ext hx) hr (by omega) (by omega))
  have HAt := Lib.hid hat.coms
  have HCln := Lib.hid hat.coms.len
  have END : ∀ (w9 : World) (e : Int), Ext w w9 → Blk w9 (w.heap.size + 1) 27 docZero → d.rmX id = (Doc.zero, e) → ∀ (tmps : Array Value), tmps.getD 4 undef = .pointer (some ⟨w.heap.size + 1, 0, none⟩) → tmps.getD 5 undef = .int .i64 e →
      (results Tryz.f24 tmps).run Tryz.prog (putB w9 (w.heap.size + 1) 27 docZero) = .ok (.tuple #[.agg docZero, .int .i64 e]) (putB w9 (w.heap.size + 1) 27 docZero) ∧
        DEPost (d.rmX id) w (.returned (.tuple #[.agg docZero, .int .i64 e])) (putB w9 (w.heap.size + 1) 27 docZero) := fun w9 e hx hz he tmps h8 h9 => by
    refine ⟨?_, dePost_err he (hx.put (by omega) _ _)⟩
    have := results_B_tmp (P := Tryz.prog) Tryz.results24 (tmps := tmps) (w := putB w9 (w.heap.size + 1) 27 docZero) (g := w.heap.size + 1) h8 (hz.put _) Tryz.underlying27 rfl size_docI
    rw [this, h9]
  have HEnd := Lib.hid END
  clear END hat hE hf hrn hr
  obtain ⟨hra, nr, hrc, hea, hen, hec, hca, nc, hcc⟩ := h
  unfold DClPost at HCl
  unfold Doc.cells docZero at *
  dsimp only at *
  go_enter Tryz.func24, Tryz.ntmps24
  go_wp2_with (refine wpList_loadB rfl 27 (.tmp 2) rfl (w.heap.size) 27 _ _ (by exact rfl) (by exact HB.out) Tryz.underlying27 rfl (by exact size_docI) ?_)
  refine (HCk.out _ HX.out).mono ?_
  rintro en w0 ⟨rfl, hx0⟩
  have HX0 := Lib.hid (HX.out.trans hx0)
  have HB0 := Lib.hid (HB.out.ext hx0)
  have HZ0 := Lib.hid (HZ.out.ext hx0)
  clear hx0 HX HB HZ HCk
  by_cases h0 : d.err = 0
  case neg =>
    have hne2 : (d.err != 0) = true := by simpa using h0
    have HR1 : Hid (d.rmX id = (Doc.zero, d.err)) := rmX_1 h0
    clear h0
    go_wp2_with (refine wpList_storeB rfl 27 (.tmp 4) _ rfl (w.heap.size + 1) 27 _ _ (by exact rfl) (by exact rfl) (by exact HZ0.out) (by exact rfl) (by exact size_docI) (by simp [Value.oneCell']) ?_)
    exact (fun q => bodyPost_ret q.1 rfl q.2) (HEnd.out _ _ HX0.out HZ0.out (HR1.out) _ (by exact rfl) (by exact rfl))
  have HC := Lib.hid h0
  rw [h0]
  clear h0
  go_wp2_with (refine wpList_loadB rfl 27 (.tmp 2) rfl (w.heap.size) 27 _ _ (by exact rfl) (by exact HB0.out) Tryz.underlying27 rfl (by exact size_docI) ?_)
  refine (HFd.out _ HX0.out).mono ?_
  rintro en w1 ⟨rfl, hx1⟩
  have HX1 := Lib.hid (HX0.out.trans hx1)
  have HB1 := Lib.hid (HB0.out.ext hx1)
  have HZ1 := Lib.hid (HZ0.out.ext hx1)
  clear hx1 HX0 HB0 HZ0 HFd
  cases hfc : findC d.coms id with
  | none =>
    have hfi : findCI d.coms id = -1 := by unfold findCI; rw [hfc]
    have HR1 : Hid (d.rmX id = (Doc.zero, 6)) := rmX_2 HC.out hfc
    rw [hfi]
    clear hfc hfi
    go_wp2_with (refine wpList_storeB rfl 27 (.tmp 4) _ rfl (w.heap.size + 1) 27 _ _ (by exact rfl) (by exact rfl) (by exact HZ1.out) (by exact rfl) (by exact size_docI) (by simp [Value.oneCell']) ?_)
    exact (fun q => bodyPost_ret q.1 rfl q.2) (HEnd.out _ _ HX1.out HZ1.out (HR1.out) _ (by exact rfl) (by exact rfl))
  | some k =>
  have hfi : findCI d.coms id = (k : Int) := by unfold findCI; rw [hfc]
  have hkl : k < nc := by have h1 := findC_lt hfc; have h2 := HCln.out; omega
  have HF := Lib.hid hfc
  rw [hfi]
  clear hfc hfi
  have HR1 : Hid (d.rmX id = (d.withComs (d.coms.take k ++ d.coms.drop (k + 1)), 0)) := rmX_3 HC.out HF.out
  go_wp2_with (refine wpList_loadB rfl 27 (.tmp 2) rfl (w.heap.size) 27 _ _ (by exact rfl) (by exact HB1.out) Tryz.underlying27 rfl (by exact size_docI) ?_)
  refine (HCl.out _ HX1.out).mono ?_
  rintro en w5 ⟨⟨ra, rn, rc, ea, en5, ec, ca, cn, cc⟩, rfl, ho5, hx5⟩
  dsimp only
  have hsz := HX1.out.size
  have hcn5 : k < cn := by have := ho5.clen; have := HCln.out; dsimp only at *; omega
  obtain ⟨g, hca, hLg⟩ := ho5.com_at hcn5
  dsimp only at hca
  subst hca
  have HP5 := Lib.hid (Blk.new w5 27 #[.string d.title, .string d.lang, .int .u8 d.rate, .bool d.drop, .int .i64 d.last, .slice ra rn rc, .slice ea en5 ec, .slice (some ⟨g, 0, none⟩) cn cc])
  have hxa := (Ext.refl w5).alloc (.cells #[.string d.title, .string d.lang, .int .u8 d.rate, .bool d.drop, .int .i64 d.last, .slice ra rn rc, .slice ea en5 ec, .slice (some ⟨g, 0, none⟩) cn cc] 27)
  have HX5 := Lib.hid ((HX1.out.trans hx5).trans hxa)
  have HZ5 := Lib.hid ((HZ1.out.ext hx5).ext hxa)
  have HO5 := Lib.hid (ho5.ext hxa)
  have hx5' := hx5.size
  clear hx5
  rcases HO5.out.coms.2 with ⟨hv, hn⟩ | ⟨g', cap, cur, hv, hg, hb, hnc, hcm, hcs, ht⟩
  · dsimp only at hn; omega
  cases hv
  dsimp only at hnc hcm hcs ht
  have hBb : Blk _ g 78 cur := hb
  have HNe : Hid (g ≠ w5.heap.size) := by
    show g ≠ _
    have h1 := ho5.coms.2
    rcases h1 with ⟨hv, hn⟩ | ⟨g2, cap2, cur2, hv, hg2, hb2, -⟩
    · dsimp only at hn; omega
    · cases hv
      have : g < w5.heap.size := Blk.lt hb2
      omega
  have HG8 : Hid (w1.heap.size ≤ w5.heap.size) := hx5'
  have hzl := HZ1.out.lt
  clear ho5 hx5'
  go_upto_region 8 with fail
  obtain ⟨G8, hG8⟩ : ∃ G8, G8 = w5.heap.size := ⟨_, rfl⟩
  obtain ⟨w2, hw2⟩ : ∃ w2, w2 = w5.alloc (.cells #[.string d.title, .string d.lang, .int .u8 d.rate, .bool d.drop, .int .i64 d.last, .slice ra rn rc, .slice ea en5 ec, .slice (some ⟨g, 0, none⟩) cn cc] 27) := ⟨_, rfl⟩
  rw [← hw2] at HP5 HX5 HZ5 HO5 hBb ⊢
  rw [← hG8] at HP5 HNe HG8 ⊢
  have hcl5 := HO5.out.clen
  dsimp only at hcl5
  have hsrc0 : (d.coms.drop (k + 1)).flatMap Com.vals = (d.coms.flatMap Com.vals).drop ((k + 1) * 8) := (flatMap_drop (f := Com.vals) (s := 8) (fun _ => rfl) d.coms (k + 1)).symm
  obtain ⟨news, hnews⟩ : ∃ news, news = (d.coms.drop (k + 1)).flatMap Com.vals := ⟨_, rfl⟩
  have hlen : news.length = (cn - (k + 1)) * 8 := by rw [hnews, flatMap_len Com.vals 8 (fun _ => rfl), List.length_drop, hcl5]
  have hcell : ∀ j u, news[j]? = some u → w2.cell? ⟨g, (k + 1) * 8 + j, none⟩ = some u := fun j u hu => by
    have hj : j < (cn - (k + 1)) * 8 := by rw [← hlen]; exact (List.getElem?_eq_some_iff.1 hu).1
    rw [HO5.out.coms.cellAt ((k + 1) * 8 + j) (by dsimp only; omega), ← List.getElem?_drop, ← hsrc0, ← hnews, hu]
  obtain ⟨A, hA, hsrc⟩ : ∃ A : Addr, (if cc = k + 1 then (some ⟨g, 0, none⟩ : Option Addr) else some ⟨g, (k + 1) * 8, none⟩) = some A ∧ (∀ j u, news[j]? = some u → w2.cell? (A.add j) = some u) := by
    by_cases h : cc = k + 1
    · refine ⟨⟨g, 0, none⟩, by rw [if_pos h], fun j u hu => ?_⟩
      have h0 : news.length = 0 := by rw [hlen]; omega
      rw [List.length_eq_zero_iff.1 h0] at hu
      simp at hu
    · exact ⟨⟨g, (k + 1) * 8, none⟩, by rw [if_neg h], fun j u hu => by rw [Addr.add_mid]; exact hcell j u hu⟩
  have HBg := Lib.hid hBb
  have HLn := Lib.hid hlen
  have HSrc := Lib.hid hsrc
  have HOne : Hid (∀ u ∈ news, u.oneCell' = true) := by
    show ∀ u ∈ news, _
    rw [hnews]
    exact flatMap_one com_ones _
  have HFit : Hid (k * 8 + news.length ≤ cur.size) := by show _ ≤ _; rw [hlen, hcs]; omega
  obtain ⟨cur2, hcur2⟩ : ∃ cur2, cur2 = (cur.toList.take (k * 8) ++ news ++ cur.toList.drop (k * 8 + news.length)).toArray := ⟨_, rfl⟩
  have hcs2 : cur2.size = cur.size := by
    have := HFit.out
    rw [hcur2]; simp; omega
  have hkc : k ≤ cc := by omega
  have hk1 : k + 1 ≤ cc := by omega
  have hbd : 0 ≤ (k : Int) + 1 ∧ (k : Int) + 1 ≤ (cn : Int) := by omega
  have hbe : 0 ≤ (k : Int) ∧ (k : Int) ≤ (cc : Int) := by omega
  have hw1 : IntKind.i64.wrap ((k : Int) + 1) = (k : Int) + 1 := by rw [IntKind.wrap_i64]; omega
  have HC2 := Lib.hid hcur2
  have HD := Lib.hid hnews
  have HT := Lib.hid ht
  have HW2 := Lib.hid hw2
  have HCs := Lib.hid hcs
  have hgL : w.heap.size ≤ g := by omega
  have hG8L : w.heap.size + 1 < G8 := by have := HG8.out; have := HZ1.out.lt; omega
  clear hcur2 hnews hsrc hcell hsrc0 hlen hw2 ht hb hBb hcs hG8
  refine wp_region_links [some 23, some 24, some 25, some 26, some 27, some 28, some 29, some 30, some 31, some 32, some 33, none] [[], [0], [], [1, 2], [], [4], [], [6], [5, 7], [3, 8], [0, 1, 2, 3, 4, 5, 6, 7, 8, 9], [10, 9, 9, 0, 1, 2, 3, 4, 5, 6, 7, 8, 9]] [9, 11] [.pointer (some ⟨G8, 7, none⟩), .slice (some ⟨g, 0, none⟩) cn cc, .int .i64 (k : Int), .slice (some ⟨g, 0, none⟩) k cc, .pointer (some ⟨G8, 7, none⟩), .slice (some ⟨g, 0, none⟩) cn cc, .int .i64 (k : Int), .int .i64 ((k : Int) + 1), .slice (some A) (cn - (k + 1)) (cc - (k + 1)), undef, .pointer (some ⟨G8, 7, none⟩), undef] (RemJ g cur2 (.slice (some ⟨g, 0, none⟩) (k + (cn - (k + 1))) cc) G8 (#[.string d.title, .string d.lang, .int .u8 d.rate, .bool d.drop, .int .i64 d.last, .slice ra rn rc, .slice ea en5 ec, .slice (some ⟨g, 0, none⟩) (k + (cn - (k + 1))) cc]) w2) (by kernel_rfl) (by kernel_rfl) (by kernel_rfl) (by kernel_rfl) (by kernel_rfl) (by kernel_rfl) (by kernel_rfl) (by decide) ?_ ?_ ?_ ?_
  · exact RemJ.start w2
  · intro i o ho hc a w' us K' hJ hF hlim hk
    match i, ho with
    | 0, ho =>
      simp only [List.getElem?_toArray, List.getElem?_cons_zero, List.getElem?_cons_succ, Option.some.injEq] at ho
      subst ho
      have e8 := hF.old 8 (.pointer (some ⟨G8, 0, none⟩)) rfl rfl
      simp only [Act.eval] at e8
      clear hF hlim hJ
      go_simp
      exact hk
    | 1, ho =>
      simp only [List.getElem?_toArray, List.getElem?_cons_zero, List.getElem?_cons_succ, Option.some.injEq] at ho
      subst ho
      have e23 := hF.pure 0 23 (.pointer (some ⟨G8, 7, none⟩)) rfl rfl rfl rfl
      have hcl : w'.cell? ⟨G8, 7, none⟩ = some (.slice (some ⟨g, 0, none⟩) cn cc) := (hJ.blk8 (by have := hlim 1 11 rfl rfl; omega) HP5.out HNe.out).cell 7
      simp only [Act.eval] at e23
      clear hF hlim hJ
      go_simp
      exact hk
    | 2, ho =>
      simp only [List.getElem?_toArray, List.getElem?_cons_zero, List.getElem?_cons_succ, Option.some.injEq] at ho
      subst ho
      have e7 := hF.old 7 (.int .i64 (k : Int)) rfl rfl
      simp only [Act.eval] at e7
      clear hF hlim hJ
      go_simp
      exact hk
    | 3, ho =>
      simp only [List.getElem?_toArray, List.getElem?_cons_zero, List.getElem?_cons_succ, Option.some.injEq] at ho
      subst ho
      have e24 := hF.pure 1 24 (.slice (some ⟨g, 0, none⟩) cn cc) rfl rfl rfl rfl
      have e25 := hF.pure 2 25 (.int .i64 (k : Int)) rfl rfl rfl rfl
      simp only [Act.eval] at e24 e25
      clear hF hlim hJ
      go_simp
      exact hk
    | 4, ho =>
      simp only [List.getElem?_toArray, List.getElem?_cons_zero, List.getElem?_cons_succ, Option.some.injEq] at ho
      subst ho
      have e8 := hF.old 8 (.pointer (some ⟨G8, 0, none⟩)) rfl rfl
      simp only [Act.eval] at e8
      clear hF hlim hJ
      go_simp
      exact hk
    | 5, ho =>
      simp only [List.getElem?_toArray, List.getElem?_cons_zero, List.getElem?_cons_succ, Option.some.injEq] at ho
      subst ho
      have e27 := hF.pure 4 27 (.pointer (some ⟨G8, 7, none⟩)) rfl rfl rfl rfl
      have hcl : w'.cell? ⟨G8, 7, none⟩ = some (.slice (some ⟨g, 0, none⟩) cn cc) := (hJ.blk8 (by have := hlim 1 11 rfl rfl; omega) HP5.out HNe.out).cell 7
      simp only [Act.eval] at e27
      clear hF hlim hJ
      go_simp
      exact hk
    | 6, ho =>
      simp only [List.getElem?_toArray, List.getElem?_cons_zero, List.getElem?_cons_succ, Option.some.injEq] at ho
      subst ho
      have e7 := hF.old 7 (.int .i64 (k : Int)) rfl rfl
      simp only [Act.eval] at e7
      clear hF hlim hJ
      go_simp
      exact hk
    | 7, ho =>
      simp only [List.getElem?_toArray, List.getElem?_cons_zero, List.getElem?_cons_succ, Option.some.injEq] at ho
      subst ho
      have e29 := hF.pure 6 29 (.int .i64 (k : Int)) rfl rfl rfl rfl
      simp only [Act.eval] at e29
      clear hF hlim hJ
      go_simp
      exact hk
    | 8, ho =>
      simp only [List.getElem?_toArray, List.getElem?_cons_zero, List.getElem?_cons_succ, Option.some.injEq] at ho
      subst ho
      have e28 := hF.pure 5 28 (.slice (some ⟨g, 0, none⟩) cn cc) rfl rfl rfl rfl
      have e30 := hF.pure 7 30 (.int .i64 ((k : Int) + 1)) rfl rfl rfl rfl
      simp only [Act.eval] at e28 e30
      clear hF hlim hJ
      go_simp
      exact hk
    | 9, ho => simp at hc
    | 10, ho =>
      simp only [List.getElem?_toArray, List.getElem?_cons_zero, List.getElem?_cons_succ, Option.some.injEq] at ho
      subst ho
      have e8 := hF.old 8 (.pointer (some ⟨G8, 0, none⟩)) rfl rfl
      simp only [Act.eval] at e8
      clear hF hlim hJ
      go_simp
      exact hk
    | 11, ho => simp at hc
    | i + 12, ho => simp at ho
  · intro p c' o hp ho a w' us K' hl hJ hF hk
    match p, hp with
    | 0, hp =>
      obtain rfl : 9 = c' := by simpa using hp
      simp only [List.getElem?_toArray, List.getElem?_cons_zero, List.getElem?_cons_succ, Option.some.injEq] at ho
      subst ho
      obtain rfl : us = [] := List.eq_nil_of_length_eq_zero hl
      have e26 := hF.pure 3 26 (.slice (some ⟨g, 0, none⟩) k cc) rfl rfl rfl rfl
      have e31 := hF.pure 8 31 (.slice (some A) (cn - (k + 1)) (cc - (k + 1))) rfl rfl rfl rfl
      exact wp_append_room (.tmp 26) (.tmp 31) 25 rfl info_comI Tryz.underlying25 (HBg.out.ext (hJ.nil rfl)) e26 e31 HLn.out (fun j u hu => (hJ.nil rfl).cell (HSrc.out j u hu)) HOne.out (by omega) HFit.out (by rw [← HC2.out]; exact hk _ _ hJ.app)
    | 1, hp =>
      obtain rfl : 11 = c' := by simpa using hp
      simp only [List.getElem?_toArray, List.getElem?_cons_zero, List.getElem?_cons_succ, Option.some.injEq] at ho
      subst ho
      obtain ⟨u0, rfl⟩ := list_1 hl
      obtain ⟨rfl, w5, hx5, rfl⟩ := hJ.one u0 rfl
      have e33 := hF.pure 10 33 (.pointer (some ⟨G8, 7, none⟩)) rfl rfl rfl rfl
      have e32 := hF.link 0 9 32 _ rfl rfl rfl rfl
      have hB8 := (HP5.out.ext hx5).put_other (t' := 78) HNe.out cur2
      have hs := setCell_put hB8 7 (.slice (some ⟨g, 0, none⟩) (k + (cn - (k + 1))) cc)
      have hc := hB8.cell 7
      have hf := hB8.frozen 7
      simp only [Act.eval] at e32 e33
      simp at hs hc
      have HK := Lib.hid (hk (.tuple #[]) _ (hJ.sto hx5))
      clear hk hF hJ hB8
      go_simp
      exact HK.out
    | p + 2, hp => simp at hp
  intro us w9 hl hJ
  obtain ⟨u0, u1, rfl⟩ := list_2 hl
  first | (rename_i hK; refine hK _ _ ?_; clear hK) | (rename_i hK hK_1; refine hK _ _ ?_; clear hK) | (rename_i hK hK_1 hK_2; refine hK _ _ ?_; clear hK) | (rename_i hK hK_1 hK_2 hK_3; refine hK _ _ ?_; clear hK)
  generalize hL : frameL _ _ _ _ = L
  obtain rfl : L = [(23, .pointer (some ⟨G8, 7, none⟩)), (24, .slice (some ⟨g, 0, none⟩) cn cc), (25, .int .i64 (k : Int)), (26, .slice (some ⟨g, 0, none⟩) k cc), (27, .pointer (some ⟨G8, 7, none⟩)), (28, .slice (some ⟨g, 0, none⟩) cn cc), (29, .int .i64 (k : Int)), (30, .int .i64 ((k : Int) + 1)), (31, .slice (some A) (cn - (k + 1)) (cc - (k + 1))), (32, u0), (33, .pointer (some ⟨G8, 7, none⟩))] := hL.symm.trans (by kernel_rfl)
  clear hL hl
  simp only [Act.put, List.foldl_cons, List.foldl_nil, List.setIfInBounds_toArray, List.set_cons_zero, List.set_cons_succ]

  obtain ⟨rfl, w5', hx5, rfl⟩ := hJ.two u0 u1 rfl
  clear hJ
  rw [show k + (cn - (k + 1)) = cn - 1 by omega]
  have HX6 := Lib.hid (((HX5.out.trans hx5).put (g := g) hgL 78 cur2).put (g := G8) (by omega) 27 (#[.string d.title, .string d.lang, .int .u8 d.rate, .bool d.drop, .int .i64 d.last, .slice ra rn rc, .slice ea en5 ec, .slice (some ⟨g, 0, none⟩) (cn - 1) cc]))
  have HP6 := Lib.hid (((HP5.out.ext hx5).put_other (t' := 78) HNe.out cur2).put (#[.string d.title, .string d.lang, .int .u8 d.rate, .bool d.drop, .int .i64 d.last, .slice ra rn rc, .slice ea en5 ec, .slice (some ⟨g, 0, none⟩) (cn - 1) cc]))
  have HZ6 := Lib.hid (((HZ5.out.ext hx5).put_other (t' := 78) (g' := g) (by omega) cur2).put_other (t' := 27) (g' := G8) (by omega) (#[.string d.title, .string d.lang, .int .u8 d.rate, .bool d.drop, .int .i64 d.last, .slice ra rn rc, .slice ea en5 ec, .slice (some ⟨g, 0, none⟩) (cn - 1) cc]))
  have HBg6 := HBg.out.ext hx5
  have hO := HO5.out.ext hx5
  have hO6 : DocOwn (putB w5' g 78 cur2) w1.heap.size (d.withComs (d.coms.take k ++ d.coms.drop (k + 1))) ⟨ra, rn, rc, ea, en5, ec, some ⟨g, 0, none⟩, cn - 1, cc⟩ :=
    ⟨own_kb hO.regs (KB.put HBg6 (by decide)), hO.rlen, hO.evs.kb (KB.put HBg6 (by decide)) (KB.put HBg6 (by decide)) (KB.put HBg6 (by decide)), ⟨?_, .inr ⟨g, cc, cur2, rfl, hg, HBg6.put cur2, by dsimp only; omega, hcm, by have := HCs.out; omega, ?_⟩⟩, ?_⟩
  rotate_left
  · show ((d.coms.take k ++ d.coms.drop (k + 1)).flatMap Com.vals).length = _
    rw [flatMap_len Com.vals 8 (fun _ => rfl), List.length_append, List.length_take, List.length_drop, hcl5]
    dsimp only
    omega
  · show cur2.toList.take _ = ((d.coms.take k ++ d.coms.drop (k + 1)).flatMap Com.vals)
    have e1 : cur.toList.take (k * 8) = (d.coms.take k).flatMap Com.vals := by
      rw [← flatMap_take (f := Com.vals) (s := 8) (fun _ => rfl) d.coms k, ← HT.out, List.take_take, Nat.min_eq_left (by omega)]
    have e2 : ((d.coms.take k).flatMap Com.vals ++ (d.coms.drop (k + 1)).flatMap Com.vals).length = (cn - 1) * 8 := by
      rw [← List.flatMap_append, flatMap_len Com.vals 8 (fun _ => rfl), List.length_append, List.length_take, List.length_drop, hcl5]
      omega
    rw [HC2.out, HD.out, e1, List.flatMap_append]
    dsimp only
    rw [List.take_append_of_le_length (by rw [e2]; exact Nat.le_refl _), ← e2, List.take_length]
  · show (d.coms.take k ++ d.coms.drop (k + 1)).length = _
    dsimp only
    simp
    omega
  have HO6 := Lib.hid (hO6.put ((HP5.out.ext hx5).put_other (t' := 78) HNe.out cur2) (#[.string d.title, .string d.lang, .int .u8 d.rate, .bool d.drop, .int .i64 d.last, .slice ra rn rc, .slice ea en5 ec, .slice (some ⟨g, 0, none⟩) (cn - 1) cc]))
  clear hO hO6 HBg6
  go_wp2_with (first | (refine wpList_loadB rfl 27 (.tmp 8) rfl (G8) 27 _ _ (by exact rfl) (by exact HP6.out) Tryz.underlying27 rfl (by exact size_docI) ?_) | (refine wpList_storeB rfl 27 (.tmp 4) _ rfl (w.heap.size + 1) 27 _ _ (by exact rfl) (by exact rfl) (by exact HZ6.out) (by exact rfl) (by exact size_docI) (by simp [Value.oneCell']) ?_))
  refine bodyPost_ret (v := .tuple #[.agg ((d.rmX id).1.cells ⟨ra, rn, rc, ea, en5, ec, some ⟨g, 0, none⟩, cn - 1, cc⟩), .int .i64 (d.rmX id).2]) ?_ rfl ⟨⟨ra, rn, rc, ea, en5, ec, some ⟨g, 0, none⟩, cn - 1, cc⟩, rfl, ?_, ?_⟩
  · rw [HR1.out]
    exact results_B_tmp (P := Tryz.prog) Tryz.results24 (g := w.heap.size + 1) rfl (by exact HZ6.out.put _) Tryz.underlying27 rfl size_docI
  · rw [HR1.out]
    exact (HO6.out.le hsz).put HZ6.out _
  · exact HX6.out.put (by omega) _ _
end Go.Proofs.YtagfedbdakmlgaaGreatDoor
