/- Texts laid together. -/
import Derived.Test.YtbmblnhfmpolbaaGreatDoorTm22
import Derived.Test.YtbmblnhfmpolbaaGreatDoorTm11
import Derived.Test.YtbmblnhfmpolbaaGreatDoorTm01
import Derived.Test.YtbmblnhfmpolbaaGreatDoorTm02
import Derived.Test.YtbmblnhfmpolbaaGreatDoorTm03
import Derived.Test.YtbmblnhfmpolbaaGreatDoorTm04
set_option linter.unusedVariables false
set_option linter.unusedSimpArgs false
namespace Go.Proofs.YtbmblnhfmpolbaaGreatDoor
section
open Go.RowKit
def few (d : Doc) : Doc := { d with regs := d.regs.take 4, evs := d.evs.take 4, coms := d.coms.take 3 }
def fewH (h : DocH) : DocH := { h with rn := min h.rn 4, en := min h.en 4, cn := min h.cn 3 }
theorem take_min {α : Type} (l : List α) (n k : Nat) (h : l.length = n) : l.take (min n k) = l.take k := by
 by_cases hk : n ≤ k
 · rw [Nat.min_eq_left hk, List.take_of_length_le (by omega), List.take_of_length_le (by omega)]
 · rw [Nat.min_eq_right (by omega)]
theorem few_at {w : World} {d : Doc} {h : DocH} (k : DocAt w d h) : DocAt w (few d) (fewH h) := by
 refine ⟨?_, ?_, ?_⟩
 · have := Sl.take k.regs (Nat.min_le_left h.rn 4)
   rw [take_min _ _ _ k.regs.len] at this
   exact this
 · have := Sl.take k.evs (Nat.min_le_left h.en 4)
   rw [take_min _ _ _ k.evs.len] at this
   exact this
 · have := Sl.take k.coms (Nat.min_le_left h.cn 3)
   rw [take_min _ _ _ k.coms.len] at this
   exact this
def hoC (HD : List Value) (r e c : Value) : Array Value := (HD ++ [r, e, c]).toArray
structure HoJ (W : World) (b : Nat) (HD : List Value) (E C R E4 C3 R4 : Value) (us : List Value) (w' : World) : Prop where
 eq : (us.length = 0 ∧ w' = W.drew) ∨ (us.length = 1 ∧ w' = (W.drew).setCell ⟨b, 6, none⟩ E4) ∨ (us.length = 2 ∧ w' = ((W.drew).setCell ⟨b, 6, none⟩ E4).setCell ⟨b, 7, none⟩ C3) ∨ (us.length = 3 ∧ w' = (((W.drew).setCell ⟨b, 6, none⟩ E4).setCell ⟨b, 7, none⟩ C3).setCell ⟨b, 5, none⟩ R4)
 blk : Blk W b 27 (hoC HD R E C)
section
variable {W w' : World} {b : Nat} {v0 v1 v2 v3 v4 E C R E4 C3 R4 u0 u1 u2 : Value} {us : List Value}
theorem HoJ.start {HD : List Value} (h : Blk W b 27 (hoC HD R E C)) : HoJ W b HD E C R E4 C3 R4 [] W.drew := ⟨.inl ⟨rfl, rfl⟩, h⟩
theorem HoJ.no {HD : List Value} (h : HoJ W b HD E C R E4 C3 R4 us w') (hl : us.length ≤ 0) : us = [] ∧ w' = W.drew := by
 obtain rfl : us = [] := List.eq_nil_of_length_eq_zero (by omega)
 rcases h.eq with ⟨_, h⟩ | ⟨h, _⟩ | ⟨h, _⟩ | ⟨h, _⟩
 · exact ⟨rfl, h⟩
 all_goals simp at h
theorem HoJ.blk0 (h : HoJ W b [v0, v1, v2, v3, v4] E C R E4 C3 R4 [] w') : Blk w' b 27 #[v0, v1, v2, v3, v4, R, E, C] := by
 rcases h.eq with ⟨_, rfl⟩ | ⟨q, _⟩ | ⟨q, _⟩ | ⟨q, _⟩
 · exact h.blk
 all_goals simp at q
theorem HoJ.blk1 (h : HoJ W b [v0, v1, v2, v3, v4] E C R E4 C3 R4 [u0] w') : Blk w' b 27 #[v0, v1, v2, v3, v4, R, E4, C] := by
 rcases h.eq with ⟨q, _⟩ | ⟨_, rfl⟩ | ⟨q, _⟩ | ⟨q, _⟩
 · simp at q
 · have hb : Blk W.drew b 27 #[v0, v1, v2, v3, v4, R, E, C] := h.blk
   rw [setCell_put hb]
   exact hb.put _
 all_goals simp at q
theorem HoJ.blk2 (h : HoJ W b [v0, v1, v2, v3, v4] E C R E4 C3 R4 [u0, u1] w') : Blk w' b 27 #[v0, v1, v2, v3, v4, R, E4, C3] := by
 rcases h.eq with ⟨q, _⟩ | ⟨q, _⟩ | ⟨_, rfl⟩ | ⟨q, _⟩
 · simp at q
 · simp at q
 · have hb : Blk W.drew b 27 #[v0, v1, v2, v3, v4, R, E, C] := h.blk
   rw [setCell_put hb, setCell_put (hb.put _)]
   exact (hb.put _).put _
 · simp at q
theorem HoJ.blk3 (h : HoJ W b [v0, v1, v2, v3, v4] E C R E4 C3 R4 [u0, u1, u2] w') : Blk w' b 27 #[v0, v1, v2, v3, v4, R4, E4, C3] := by
 rcases h.eq with ⟨q, _⟩ | ⟨q, _⟩ | ⟨q, _⟩ | ⟨_, rfl⟩
 · simp at q
 · simp at q
 · simp at q
 · have hb : Blk W.drew b 27 #[v0, v1, v2, v3, v4, R, E, C] := h.blk
   rw [setCell_put hb, setCell_put (hb.put _), setCell_put ((hb.put _).put _)]
   exact ((hb.put _).put _).put _
theorem HoJ.store0 {HD : List Value} (h : HoJ W b HD E C R E4 C3 R4 [] w') : HoJ W b HD E C R E4 C3 R4 ([] ++ [u2]) (w'.setCell ⟨b, 6, none⟩ E4) := by
 obtain ⟨-, rfl⟩ := h.no (by simp)
 exact ⟨.inr (.inl ⟨rfl, rfl⟩), h.blk⟩
theorem HoJ.store1 {HD : List Value} (h : HoJ W b HD E C R E4 C3 R4 [u0] w') : HoJ W b HD E C R E4 C3 R4 ([u0] ++ [u2]) (w'.setCell ⟨b, 7, none⟩ C3) := by
 rcases h.eq with ⟨q, _⟩ | ⟨_, rfl⟩ | ⟨q, _⟩ | ⟨q, _⟩
 · simp at q
 · exact ⟨.inr (.inr (.inl ⟨rfl, rfl⟩)), h.blk⟩
 all_goals simp at q
theorem HoJ.store2 {HD : List Value} (h : HoJ W b HD E C R E4 C3 R4 [u0, u1] w') : HoJ W b HD E C R E4 C3 R4 ([u0, u1] ++ [u2]) (w'.setCell ⟨b, 5, none⟩ R4) := by
 rcases h.eq with ⟨q, _⟩ | ⟨q, _⟩ | ⟨_, rfl⟩ | ⟨q, _⟩
 · simp at q
 · simp at q
 · exact ⟨.inr (.inr (.inr ⟨rfl, rfl⟩)), h.blk⟩
 · simp at q
theorem HoJ.other {HD : List Value} {g : Nat} {cs : Array Value} (h : HoJ W b HD E C R E4 C3 R4 us w') (hg : g ≠ b) (hB : Blk W g 27 cs) : Blk w' g 27 cs := by
 have hb : Blk W.drew b 27 (hoC HD R E C) := h.blk
 have hB' : Blk W.drew g 27 cs := hB
 rcases h.eq with ⟨_, rfl⟩ | ⟨_, rfl⟩ | ⟨_, rfl⟩ | ⟨_, rfl⟩
 · exact hB'
 · rw [setCell_put hb]
   exact hB'.put_other (Ne.symm hg) _
 · rw [setCell_put hb, setCell_put (hb.put _)]
   exact (hB'.put_other (Ne.symm hg) _).put_other (Ne.symm hg) _
 · rw [setCell_put hb, setCell_put (hb.put _), setCell_put ((hb.put _).put _)]
   exact ((hB'.put_other (Ne.symm hg) _).put_other (Ne.symm hg) _).put_other (Ne.symm hg) _
theorem HoJ.ext {HD : List Value} {w : World} (h : HoJ W b HD E C R E4 C3 R4 us w') (hx : Ext w W) (hb : w.heap.size ≤ b) : Ext w w' := by
 rcases h.eq with ⟨_, rfl⟩ | ⟨_, rfl⟩ | ⟨_, rfl⟩ | ⟨_, rfl⟩
 · exact hx.drew
 · exact hx.drew.setCell hb _
 · exact (hx.drew.setCell hb _).setCell hb _
 · exact ((hx.drew.setCell hb _).setCell hb _).setCell hb _
end
set_option maxHeartbeats 4000000 in
set_option maxRecDepth 100000 in
theorem houseFew_any (d : Doc) (h : DocH) (w : World) (hrc : h.rn ≤ h.rc) (hec : h.en ≤ h.ec) (hcc : h.cn ≤ h.cc) :
 Calls Tryz.prog 4 #[.agg (d.cells h)] w fun e w' => e = .returned (.agg ((few d).cells (fewH h))) ∧ Ext w w' := by
 obtain ⟨ra, rn, rc, ea, en, ec, ca, cn, cc⟩ := h
 dsimp only at hrc hec hcc
 unfold few fewH Doc.cells
 dsimp only
 obtain ⟨W0, hW0⟩ : ∃ W0, W0 = (w.alloc (.cells #[.string d.title, .string d.lang, .int .u8 d.rate, .bool d.drop, .int .i64 d.last, .slice ra rn rc, .slice ea en ec, .slice ca cn cc] 27)).alloc (.cells docZ 27) := ⟨_, rfl⟩
 have HX0 : Hid (Ext w W0) := by show Ext _ _; rw [hW0]; exact ((Ext.refl w).alloc _).alloc _
 have HB0 : Hid (Blk W0 w.heap.size 27 #[.string d.title, .string d.lang, .int .u8 d.rate, .bool d.drop, .int .i64 d.last, .slice ra rn rc, .slice ea en ec, .slice ca cn cc]) := by show Blk _ _ _ _; rw [hW0]; exact (Blk.new w _ _).alloc _
 have HB2 : Hid (Blk W0 (w.heap.size + 1) 27 docZ) := by show Blk _ _ _ _; rw [hW0]; exact Blk.new' (by simp)
 obtain ⟨HD, hHD⟩ : ∃ HD : List Value, HD = [.string d.title, .string d.lang, .int .u8 d.rate, .bool d.drop, .int .i64 d.last] := ⟨_, rfl⟩
 unfold docZ at hW0 HB2
 have HW0 := Lib.hid hW0
 clear hW0
 go_enter Tryz.func4, Tryz.ntmps4
 go_upto_region 1 with fail
 rw [← HW0.out]
 subst hHD
 refine wp_region_linksR [some 3, some 4, some 5, some 6, some 7, some 8, some 9, some 10, some 11, some 12, some 13, some 14, some 15, some 16, some 17, some 18, some 19, some 20, some 21, some 22, some 23, some 24, none, some 25, none, some 26, none] [[], [0], [], [2], [3], [4], [1, 5], [], [7], [], [9], [10], [11], [8, 12], [], [14], [], [16], [17], [18], [15, 19], [0, 1, 2, 3, 4, 5, 6, 7, 8, 9, 10, 14, 15, 16, 17], [21, 6, 0, 1, 2, 3, 4, 5, 6, 7, 8, 9, 10, 14, 15, 16, 17], [0, 1, 2, 3, 4, 5, 6, 7, 8, 9, 10, 11, 12, 13, 14, 15, 16, 17, 21, 22], [23, 13, 22, 0, 1, 2, 3, 4, 5, 6, 7, 8, 9, 10, 11, 12, 13, 14, 15, 16, 17, 21, 22], [0, 1, 2, 3, 4, 5, 6, 7, 8, 9, 10, 11, 12, 13, 14, 15, 16, 17, 18, 19, 20, 21, 22, 23, 24], [25, 20, 24, 0, 1, 2, 3, 4, 5, 6, 7, 8, 9, 10, 11, 12, 13, 14, 15, 16, 17, 18, 19, 20, 21, 22, 23, 24]] [22, 24, 26] [.pointer (some ⟨w.heap.size, 6, none⟩), .slice ea en ec, .pointer (some ⟨w.heap.size, 6, none⟩), .slice ea en ec, .int .i64 ((en : Nat) : Int), .int .i64 ((min en 4 : Nat) : Int), .slice ea (min en 4) ec, .pointer (some ⟨w.heap.size, 7, none⟩), .slice ca cn cc, .pointer (some ⟨w.heap.size, 7, none⟩), .slice ca cn cc, .int .i64 ((cn : Nat) : Int), .int .i64 ((min cn 3 : Nat) : Int), .slice ca (min cn 3) cc, .pointer (some ⟨w.heap.size, 5, none⟩), .slice ra rn rc, .pointer (some ⟨w.heap.size, 5, none⟩), .slice ra rn rc, .int .i64 ((rn : Nat) : Int), .int .i64 ((min rn 4 : Nat) : Int), .slice ra (min rn 4) rc, .pointer (some ⟨w.heap.size, 6, none⟩), undef, .pointer (some ⟨w.heap.size, 7, none⟩), undef, .pointer (some ⟨w.heap.size, 5, none⟩), undef] (HoJ W0 w.heap.size [.string d.title, .string d.lang, .int .u8 d.rate, .bool d.drop, .int .i64 d.last] (.slice ea en ec) (.slice ca cn cc) (.slice ra rn rc) (.slice ea (min en 4) ec) (.slice ca (min cn 3) cc) (.slice ra (min rn 4) rc)) (by kernel_rfl) (by kernel_rfl) (by kernel_rfl) (by kernel_rfl) (by kernel_rfl) (by kernel_rfl) (by kernel_rfl) (by decide) ?_ ?_ ?_ ?_
 · exact HoJ.start HB0.out
 · intro i o ho hc a w' us K' hJ hF hlim hk
   match i, ho with
   | 0, ho =>
    simp only [List.getElem?_toArray, List.getElem?_cons_zero, List.getElem?_cons_succ, Option.some.injEq] at ho
    subst ho
    have e1 := hF.old 1 (.pointer (some ⟨w.heap.size, 0, none⟩)) rfl rfl
    simp only [Act.eval] at e1
    try clear hJ
    clear hF hlim
    go_simp
    exact hk
   | 1, ho =>
    simp only [List.getElem?_toArray, List.getElem?_cons_zero, List.getElem?_cons_succ, Option.some.injEq] at ho
    subst ho
    have e3 := hF.pure 0 3 (.pointer (some ⟨w.heap.size, 6, none⟩)) rfl rfl rfl rfl
    have hl0 := hJ.no (hlim 0 22 rfl (by kernel_rfl))
    obtain ⟨rfl, rfl⟩ := hl0
    have hcl := HB0.out.cell 6
    simp only [List.getElem?_toArray, List.getElem?_cons_zero, List.getElem?_cons_succ] at hcl
    simp only [Act.eval] at e3
    try clear hJ
    clear hF hlim
    go_simp
    exact hk
   | 2, ho =>
    simp only [List.getElem?_toArray, List.getElem?_cons_zero, List.getElem?_cons_succ, Option.some.injEq] at ho
    subst ho
    have e1 := hF.old 1 (.pointer (some ⟨w.heap.size, 0, none⟩)) rfl rfl
    simp only [Act.eval] at e1
    try clear hJ
    clear hF hlim
    go_simp
    exact hk
   | 3, ho =>
    simp only [List.getElem?_toArray, List.getElem?_cons_zero, List.getElem?_cons_succ, Option.some.injEq] at ho
    subst ho
    have e5 := hF.pure 2 5 (.pointer (some ⟨w.heap.size, 6, none⟩)) rfl rfl rfl rfl
    have hl0 := hJ.no (hlim 0 22 rfl (by kernel_rfl))
    obtain ⟨rfl, rfl⟩ := hl0
    have hcl := HB0.out.cell 6
    simp only [List.getElem?_toArray, List.getElem?_cons_zero, List.getElem?_cons_succ] at hcl
    simp only [Act.eval] at e5
    try clear hJ
    clear hF hlim
    go_simp
    exact hk
   | 4, ho =>
    simp only [List.getElem?_toArray, List.getElem?_cons_zero, List.getElem?_cons_succ, Option.some.injEq] at ho
    subst ho
    have e6 := hF.pure 3 6 (.slice ea en ec) rfl rfl rfl rfl
    simp only [Act.eval] at e6
    try clear hJ
    clear hF hlim
    go_simp
    exact hk
   | 5, ho =>
    simp only [List.getElem?_toArray, List.getElem?_cons_zero, List.getElem?_cons_succ, Option.some.injEq] at ho
    subst ho
    have e7 := hF.pure 4 7 (.int .i64 ((en : Nat) : Int)) rfl rfl rfl rfl
    simp only [Act.eval] at e7
    try clear hJ
    clear hF hlim
    go_simp
    have hmn : min (en : Int) 4 = ((min en 4 : Nat) : Int) := by omega
    rw [hmn]
    exact hk
   | 6, ho =>
    simp only [List.getElem?_toArray, List.getElem?_cons_zero, List.getElem?_cons_succ, Option.some.injEq] at ho
    subst ho
    have e4 := hF.pure 1 4 (.slice ea en ec) rfl rfl rfl rfl
    have e8 := hF.pure 5 8 (.int .i64 ((min en 4 : Nat) : Int)) rfl rfl rfl rfl
    have hcap : min en 4 ≤ ec := by omega
    simp only [Act.eval] at e8 e4
    try clear hJ
    clear hF hlim
    go_simp
    exact hk
   | 7, ho =>
    simp only [List.getElem?_toArray, List.getElem?_cons_zero, List.getElem?_cons_succ, Option.some.injEq] at ho
    subst ho
    have e1 := hF.old 1 (.pointer (some ⟨w.heap.size, 0, none⟩)) rfl rfl
    simp only [Act.eval] at e1
    try clear hJ
    clear hF hlim
    go_simp
    exact hk
   | 8, ho =>
    simp only [List.getElem?_toArray, List.getElem?_cons_zero, List.getElem?_cons_succ, Option.some.injEq] at ho
    subst ho
    have e10 := hF.pure 7 10 (.pointer (some ⟨w.heap.size, 7, none⟩)) rfl rfl rfl rfl
    have hl0 := hJ.no (hlim 0 22 rfl (by kernel_rfl))
    obtain ⟨rfl, rfl⟩ := hl0
    have hcl := HB0.out.cell 7
    simp only [List.getElem?_toArray, List.getElem?_cons_zero, List.getElem?_cons_succ] at hcl
    simp only [Act.eval] at e10
    try clear hJ
    clear hF hlim
    go_simp
    exact hk
   | 9, ho =>
    simp only [List.getElem?_toArray, List.getElem?_cons_zero, List.getElem?_cons_succ, Option.some.injEq] at ho
    subst ho
    have e1 := hF.old 1 (.pointer (some ⟨w.heap.size, 0, none⟩)) rfl rfl
    simp only [Act.eval] at e1
    try clear hJ
    clear hF hlim
    go_simp
    exact hk
   | 10, ho =>
    simp only [List.getElem?_toArray, List.getElem?_cons_zero, List.getElem?_cons_succ, Option.some.injEq] at ho
    subst ho
    have e12 := hF.pure 9 12 (.pointer (some ⟨w.heap.size, 7, none⟩)) rfl rfl rfl rfl
    have hl0 := hJ.no (hlim 0 22 rfl (by kernel_rfl))
    obtain ⟨rfl, rfl⟩ := hl0
    have hcl := HB0.out.cell 7
    simp only [List.getElem?_toArray, List.getElem?_cons_zero, List.getElem?_cons_succ] at hcl
    simp only [Act.eval] at e12
    try clear hJ
    clear hF hlim
    go_simp
    exact hk
   | 11, ho =>
    simp only [List.getElem?_toArray, List.getElem?_cons_zero, List.getElem?_cons_succ, Option.some.injEq] at ho
    subst ho
    have e13 := hF.pure 10 13 (.slice ca cn cc) rfl rfl rfl rfl
    simp only [Act.eval] at e13
    try clear hJ
    clear hF hlim
    go_simp
    exact hk
   | 12, ho =>
    simp only [List.getElem?_toArray, List.getElem?_cons_zero, List.getElem?_cons_succ, Option.some.injEq] at ho
    subst ho
    have e14 := hF.pure 11 14 (.int .i64 ((cn : Nat) : Int)) rfl rfl rfl rfl
    simp only [Act.eval] at e14
    try clear hJ
    clear hF hlim
    go_simp
    have hmn : min (cn : Int) 3 = ((min cn 3 : Nat) : Int) := by omega
    rw [hmn]
    exact hk
   | 13, ho =>
    simp only [List.getElem?_toArray, List.getElem?_cons_zero, List.getElem?_cons_succ, Option.some.injEq] at ho
    subst ho
    have e11 := hF.pure 8 11 (.slice ca cn cc) rfl rfl rfl rfl
    have e15 := hF.pure 12 15 (.int .i64 ((min cn 3 : Nat) : Int)) rfl rfl rfl rfl
    have hcap : min cn 3 ≤ cc := by omega
    simp only [Act.eval] at e11 e15
    try clear hJ
    clear hF hlim
    go_simp
    exact hk
   | 14, ho =>
    simp only [List.getElem?_toArray, List.getElem?_cons_zero, List.getElem?_cons_succ, Option.some.injEq] at ho
    subst ho
    have e1 := hF.old 1 (.pointer (some ⟨w.heap.size, 0, none⟩)) rfl rfl
    simp only [Act.eval] at e1
    try clear hJ
    clear hF hlim
    go_simp
    exact hk
   | 15, ho =>
    simp only [List.getElem?_toArray, List.getElem?_cons_zero, List.getElem?_cons_succ, Option.some.injEq] at ho
    subst ho
    have e17 := hF.pure 14 17 (.pointer (some ⟨w.heap.size, 5, none⟩)) rfl rfl rfl rfl
    have hl0 := hJ.no (hlim 0 22 rfl (by kernel_rfl))
    obtain ⟨rfl, rfl⟩ := hl0
    have hcl := HB0.out.cell 5
    simp only [List.getElem?_toArray, List.getElem?_cons_zero, List.getElem?_cons_succ] at hcl
    simp only [Act.eval] at e17
    try clear hJ
    clear hF hlim
    go_simp
    exact hk
   | 16, ho =>
    simp only [List.getElem?_toArray, List.getElem?_cons_zero, List.getElem?_cons_succ, Option.some.injEq] at ho
    subst ho
    have e1 := hF.old 1 (.pointer (some ⟨w.heap.size, 0, none⟩)) rfl rfl
    simp only [Act.eval] at e1
    try clear hJ
    clear hF hlim
    go_simp
    exact hk
   | 17, ho =>
    simp only [List.getElem?_toArray, List.getElem?_cons_zero, List.getElem?_cons_succ, Option.some.injEq] at ho
    subst ho
    have e19 := hF.pure 16 19 (.pointer (some ⟨w.heap.size, 5, none⟩)) rfl rfl rfl rfl
    have hl0 := hJ.no (hlim 0 22 rfl (by kernel_rfl))
    obtain ⟨rfl, rfl⟩ := hl0
    have hcl := HB0.out.cell 5
    simp only [List.getElem?_toArray, List.getElem?_cons_zero, List.getElem?_cons_succ] at hcl
    simp only [Act.eval] at e19
    try clear hJ
    clear hF hlim
    go_simp
    exact hk
   | 18, ho =>
    simp only [List.getElem?_toArray, List.getElem?_cons_zero, List.getElem?_cons_succ, Option.some.injEq] at ho
    subst ho
    have e20 := hF.pure 17 20 (.slice ra rn rc) rfl rfl rfl rfl
    simp only [Act.eval] at e20
    try clear hJ
    clear hF hlim
    go_simp
    exact hk
   | 19, ho =>
    simp only [List.getElem?_toArray, List.getElem?_cons_zero, List.getElem?_cons_succ, Option.some.injEq] at ho
    subst ho
    have e21 := hF.pure 18 21 (.int .i64 ((rn : Nat) : Int)) rfl rfl rfl rfl
    simp only [Act.eval] at e21
    try clear hJ
    clear hF hlim
    go_simp
    have hmn : min (rn : Int) 4 = ((min rn 4 : Nat) : Int) := by omega
    rw [hmn]
    exact hk
   | 20, ho =>
    simp only [List.getElem?_toArray, List.getElem?_cons_zero, List.getElem?_cons_succ, Option.some.injEq] at ho
    subst ho
    have e18 := hF.pure 15 18 (.slice ra rn rc) rfl rfl rfl rfl
    have e22 := hF.pure 19 22 (.int .i64 ((min rn 4 : Nat) : Int)) rfl rfl rfl rfl
    have hcap : min rn 4 ≤ rc := by omega
    simp only [Act.eval] at e18 e22
    try clear hJ
    clear hF hlim
    go_simp
    exact hk
   | 21, ho =>
    simp only [List.getElem?_toArray, List.getElem?_cons_zero, List.getElem?_cons_succ, Option.some.injEq] at ho
    subst ho
    have e1 := hF.old 1 (.pointer (some ⟨w.heap.size, 0, none⟩)) rfl rfl
    simp only [Act.eval] at e1
    try clear hJ
    clear hF hlim
    go_simp
    exact hk
   | 22, ho => simp at hc
   | 23, ho =>
    simp only [List.getElem?_toArray, List.getElem?_cons_zero, List.getElem?_cons_succ, Option.some.injEq] at ho
    subst ho
    have e1 := hF.old 1 (.pointer (some ⟨w.heap.size, 0, none⟩)) rfl rfl
    simp only [Act.eval] at e1
    try clear hJ
    clear hF hlim
    go_simp
    exact hk
   | 24, ho => simp at hc
   | 25, ho =>
    simp only [List.getElem?_toArray, List.getElem?_cons_zero, List.getElem?_cons_succ, Option.some.injEq] at ho
    subst ho
    have e1 := hF.old 1 (.pointer (some ⟨w.heap.size, 0, none⟩)) rfl rfl
    simp only [Act.eval] at e1
    try clear hJ
    clear hF hlim
    go_simp
    exact hk
   | 26, ho => simp at hc
   | i + 27, ho => simp at ho
 · intro p c' o hp ho a w' us K' hl hJ hF hk
   match p, hp with
   | 0, hp =>
    obtain rfl : 22 = c' := by simpa using hp
    simp only [List.getElem?_toArray, List.getElem?_cons_zero, List.getElem?_cons_succ, Option.some.injEq] at ho
    subst ho
    obtain rfl : us = [] := List.eq_nil_of_length_eq_zero hl
    have e24 := hF.pure 21 24 (.pointer (some ⟨w.heap.size, 6, none⟩)) rfl rfl rfl rfl
    have e9 := hF.pure 6 9 (.slice ea (min en 4) ec) rfl rfl rfl rfl
    have hB0 := hJ.blk0
    have hcl := hB0.cell 6
    simp only [List.getElem?_toArray, List.getElem?_cons_zero, List.getElem?_cons_succ] at hcl
    have hfz := hB0.frozen 6
    have HK := Lib.hid (hk undef _ (hJ.store0 (u2 := undef)))
    simp [Act.eval] at e24 e9
    clear hk hF hJ
    go_simp
    exact HK.out
   | 1, hp =>
    obtain rfl : 24 = c' := by simpa using hp
    simp only [List.getElem?_toArray, List.getElem?_cons_zero, List.getElem?_cons_succ, Option.some.injEq] at ho
    subst ho
    obtain ⟨u0, rfl⟩ := list_1 hl
    have e25 := hF.pure 23 25 (.pointer (some ⟨w.heap.size, 7, none⟩)) rfl rfl rfl rfl
    have e16 := hF.pure 13 16 (.slice ca (min cn 3) cc) rfl rfl rfl rfl
    have hB1 := hJ.blk1
    have hcl := hB1.cell 7
    simp only [List.getElem?_toArray, List.getElem?_cons_zero, List.getElem?_cons_succ] at hcl
    have hfz := hB1.frozen 7
    have HK := Lib.hid (hk undef _ (hJ.store1 (u2 := undef)))
    simp [Act.eval] at e25 e16
    clear hk hF hJ
    go_simp
    exact HK.out
   | 2, hp =>
    obtain rfl : 26 = c' := by simpa using hp
    simp only [List.getElem?_toArray, List.getElem?_cons_zero, List.getElem?_cons_succ, Option.some.injEq] at ho
    subst ho
    obtain ⟨u0, u1, rfl⟩ := list_2 hl
    have e26 := hF.pure 25 26 (.pointer (some ⟨w.heap.size, 5, none⟩)) rfl rfl rfl rfl
    have e23 := hF.pure 20 23 (.slice ra (min rn 4) rc) rfl rfl rfl rfl
    have hB2 := hJ.blk2
    have hcl := hB2.cell 5
    simp only [List.getElem?_toArray, List.getElem?_cons_zero, List.getElem?_cons_succ] at hcl
    have hfz := hB2.frozen 5
    have HK := Lib.hid (hk undef _ (hJ.store2 (u2 := undef)))
    simp [Act.eval] at e26 e23
    clear hk hF hJ
    go_simp
    exact HK.out
   | p + 3, hp => simp at hp
 intro us w2 hl hJ
 obtain ⟨u0, u1, u2, rfl⟩ := list_3 hl
 first | (rename_i hK; refine hK _ _ ?_; clear hK) | (rename_i hK hK_1; refine hK _ _ ?_; clear hK) | (rename_i hK hK_1 hK_2; refine hK _ _ ?_; clear hK) | (rename_i hK hK_1 hK_2 hK_3; refine hK _ _ ?_; clear hK)
 generalize hL : frameL _ _ _ _ = L
 obtain rfl : L = [(3, .pointer (some ⟨w.heap.size, 6, none⟩)), (4, .slice ea en ec), (5, .pointer (some ⟨w.heap.size, 6, none⟩)), (6, .slice ea en ec), (7, .int .i64 ((en : Nat) : Int)), (8, .int .i64 ((min en 4 : Nat) : Int)), (9, .slice ea (min en 4) ec), (10, .pointer (some ⟨w.heap.size, 7, none⟩)), (11, .slice ca cn cc), (12, .pointer (some ⟨w.heap.size, 7, none⟩)), (13, .slice ca cn cc), (14, .int .i64 ((cn : Nat) : Int)), (15, .int .i64 ((min cn 3 : Nat) : Int)), (16, .slice ca (min cn 3) cc), (17, .pointer (some ⟨w.heap.size, 5, none⟩)), (18, .slice ra rn rc), (19, .pointer (some ⟨w.heap.size, 5, none⟩)), (20, .slice ra rn rc), (21, .int .i64 ((rn : Nat) : Int)), (22, .int .i64 ((min rn 4 : Nat) : Int)), (23, .slice ra (min rn 4) rc), (24, .pointer (some ⟨w.heap.size, 6, none⟩)), (25, .pointer (some ⟨w.heap.size, 7, none⟩)), (26, .pointer (some ⟨w.heap.size, 5, none⟩))] := hL.symm.trans (by kernel_rfl)
 clear hL hl
 simp only [Act.put, List.foldl_cons, List.foldl_nil, List.setIfInBounds_toArray, List.set_cons_zero, List.set_cons_succ]
 have HXw := Lib.hid (hJ.ext HX0.out (Nat.le_refl _))
 have HB3 := Lib.hid hJ.blk3
 have HB4 : Hid (Blk w2 (w.heap.size + 1) 27 #[.string ⟨#[]⟩, .string ⟨#[]⟩, .int .u8 0, .bool false, .int .i64 0, .slice none 0 0, .slice none 0 0, .slice none 0 0]) := hJ.other (by omega) HB2.out
 clear hJ
 go_wp2_with (first | (refine wpList_loadB rfl 27 (.tmp 1) rfl w.heap.size 27 _ _ (by exact rfl) (by exact HB3.out) Tryz.underlying27 rfl (by exact size_docX) ?_) | (refine wpList_storeB rfl 27 (.tmp 2) (.tmp 27) rfl (w.heap.size + 1) 27 _ _ (by exact rfl) (by exact rfl) (by exact HB4.out) (by exact rfl) (by exact size_docX) (by simp [Value.oneCell']) ?_))
 refine bodyPost_ret (v := .agg #[.string d.title, .string d.lang, .int .u8 d.rate, .bool d.drop, .int .i64 d.last, .slice ra (min rn 4) rc, .slice ea (min en 4) ec, .slice ca (min cn 3) cc]) ?_ rfl ⟨rfl, HXw.out.put (by omega) 27 _⟩
 exact results_B (P := Tryz.prog) Tryz.results4 (g := w.heap.size + 1) rfl (by exact HB4.out.put _) Tryz.underlying27 rfl size_docX
end
section
open Go.RowKit
def Doc.head (d : Doc) : Value := .agg #[.string d.title, .string d.lang, .int .u8 d.rate, .bool d.drop, .int .i64 d.last]
set_option maxRecDepth 100000 in
set_option maxHeartbeats 1000000 in
theorem DHead_any (d : Doc) (h : DocH) (w : World) : Calls Tryz.prog 12 #[.agg (d.cells h)] w fun e w' => e = .returned d.head ∧ Ext w w' := by
 have HX := Lib.hid (((Ext.refl w).alloc (.cells (d.cells h) 27)))
 unfold Doc.cells at *
 go_enter Tryz.func12, Tryz.ntmps12
 go_wp2
 exact bodyPost_ret (v := d.head) (by simp [results, Tryz.results12, go_sem, Doc.head]) rfl ⟨rfl, HX.out.alloc _⟩
end
section
open Go.RowKit
def EqRel {α : Type} (w : World) (n : Nat) (l1 l2 : List α) (i : Value) (wr : World) : Prop := ∃ k : Nat, k ≤ n ∧ i = .int .i64 k ∧ Ext w wr ∧ l1.take k = l2.take k
theorem eq_of_take {α : Type} {l1 l2 : List α} {n : Nat} (h1 : l1.length = n) (h2 : l2.length = n) (h : l1.take n = l2.take n) : l1 = l2 := by
 rw [List.take_of_length_le (by omega), List.take_of_length_le (by omega)] at h
 exact h
theorem take_eq_succ {α : Type} {l1 l2 : List α} {k : Nat} {x : α} (h : l1.take k = l2.take k) (h1 : l1[k]? = some x) (h2 : l2[k]? = some x) : l1.take (k + 1) = l2.take (k + 1) := by
 rw [List.take_add_one, List.take_add_one, h, h1, h2]
theorem ne_at {α : Type} {l1 l2 : List α} {k : Nat} {x y : α} (h1 : l1[k]? = some x) (h2 : l2[k]? = some y) (h : ¬ x = y) : ¬ l1 = l2 := by
 rintro rfl
 rw [h1] at h2
 exact h (Option.some.inj h2)
end
section
open Go.RowKit
theorem neq_run (a b : Run) (w : World) : (binOp .neq 83 a.val b.val).run Tryz.prog w = .ok (.bool (!decide (a = b))) w := by
 obtain ⟨t1, c1, i1, u1, r1⟩ := a
 obtain ⟨t2, c2, i2, u2, r2⟩ := b
 unfold Run.val
 dsimp only
 go_simp
 simp only [toList_inj]
 repeat' split
 all_goals simp_all
theorem neq_run_yes (a b : Run) (h : ¬ a = b) (w : World) : (binOp .neq 83 a.val b.val).run Tryz.prog w = .ok (.bool true) w := by rw [neq_run, decide_eq_false h]; rfl
theorem neq_run_no (a : Run) (w : World) : (binOp .neq 83 a.val a.val).run Tryz.prog w = .ok (.bool false) w := by rw [neq_run, decide_eq_true rfl]; rfl
set_option maxRecDepth 100000 in
set_option maxHeartbeats 2000000 in
theorem EqualRuns_any (A : Option Addr) (n c : Nat) (B : Option Addr) (m d : Nat) (l1 l2 : Row) (w : World) (h1 : RunsAt w A n l1) (h2 : RunsAt w B m l2) (hn : n ≤ 4611686018427387904) :
 Calls Tryz.prog 108 #[.slice A n c, .slice B m d] w fun e w' => e = .returned (.bool (decide (l1 = l2))) ∧ Ext w w' := by
 have L1 := Lib.hid h1.len
 have L2 := Lib.hid h2.len
 have H1 := Lib.hid h1
 have H2 := Lib.hid h2
 clear h1 h2
 by_cases hnm : n = m
 · subst hnm
   go_enter Tryz.func108, Tryz.ntmps108
   go_wp2_with fail
   go_loopw [13] (fun i wr => EqRel w n l1 l2 i wr) (fun i _ => n - (intOf i).toNat)
   case atStart => exact ⟨0, Nat.zero_le _, rfl, Ext.refl _, rfl⟩
   case round =>
    obtain ⟨k, hk, rfl, hx, hp⟩ := hrel
    have HP := Lib.hid hp
    clear hp
    by_cases hlt : k < n
    · obtain ⟨b1, o1, r, rfl, hr, c0, c1, c2, c3, c4⟩ := (H1.out.ext hx).at_ hlt
      obtain ⟨b2, o2, s, rfl, hs, d0, d1, d2, d3, d4⟩ := (H2.out.ext hx).at_ hlt
      have HR := Lib.hid hr
      have HS := Lib.hid hs
      clear hr hs
      have hk0 : (0 : Int) ≤ (k : Int) := by omega
      have hk1 : (k : Int) < (n : Int) := by omega
      by_cases hq : r = s
      · subst hq
        have HT := Lib.hid (take_eq_succ HP.out HR.out HS.out)
        have hne := fun w => neq_run_no r w
        unfold Run.val at hne
        go_wp2_with fail
        go_quiet (fail)
        go_wp2_with fail
        exact ⟨⟨k + 1, by omega, by go_num, hx.drewN _, HT.out⟩, by simp [intOf]; omega⟩
      · have hne := fun w => neq_run_yes r s hq w
        have HN := Lib.hid (ne_at HR.out HS.out hq)
        unfold Run.val at hne
        clear hq
        go_wp2_with fail
        go_quiet (fail)
        go_wp2_with fail
        go_ret
        exact ⟨ret_bool (decide_eq_false HN.out).symm, hx.drewN _⟩
    · have hkn : k = n := by omega
      subst hkn
      have HQ := Lib.hid (eq_of_take L1.out L2.out HP.out)
      go_wp2_with fail
      go_ret
      exact ⟨ret_bool (decide_eq_true HQ.out).symm, hx⟩
 · have hb : ((n : Int) != (m : Int)) = true := by simp; omega
   have HN : Hid (¬ l1 = l2) := by
    show ¬ _
    intro h
    apply hnm
    rw [← L1.out, ← L2.out, h]
   go_enter Tryz.func108, Tryz.ntmps108
   go_wp2_with fail
   go_ret
   exact ⟨ret_bool (decide_eq_false HN.out).symm, Ext.refl _⟩
set_option maxHeartbeats 1000000 in
theorem SSame_any (A : Option Addr) (n c : Nat) (B : Option Addr) (m d : Nat) (l1 l2 : Row) (w : World) (h1 : RunsAt w A n l1) (h2 : RunsAt w B m l2) (hn : n ≤ 4611686018427387904) :
 Calls Tryz.prog 73 #[.agg #[.slice A n c], .agg #[.slice B m d]] w fun e w' => e = .returned (.bool (decide (l1 = l2))) ∧ Ext w w' := by
 have H1 := Lib.hid h1
 have H2 := Lib.hid h2
 clear h1 h2
 have hx := ((Ext.refl w).alloc (.cells #[.slice A n c] 78)).alloc (.cells #[.slice B m d] 78)
 have HX := Lib.hid hx
 clear hx
 go_enter Tryz.func73, Tryz.ntmps73
 go_wp2_with fail
 refine (EqualRuns_any A n c B m d l1 l2 _ (H1.out.ext HX.out) (H2.out.ext HX.out) hn).mono ?_
 rintro e w1 ⟨rfl, hx1⟩
 go_wp2_with fail
 go_ret
 exact ⟨rfl, HX.out.trans hx1⟩
set_option maxRecDepth 100000 in
set_option maxHeartbeats 2000000 in
theorem EqualFunc_any (A : Option Addr) (n c : Nat) (B : Option Addr) (m d : Nat) (l1 l2 : List Row) (w : World) (h1 : RowsAt w A n l1) (h2 : RowsAt w B m l2) (hn : n ≤ 4611686018427387904) :
 Calls Tryz.prog 72 #[.slice A n c, .slice B m d, .func (.func 73) #[] #[]] w fun e w' => e = .returned (.bool (decide (l1 = l2))) ∧ Ext w w' := by
 have L1 := Lib.hid h1.len
 have L2 := Lib.hid h2.len
 have H1 := Lib.hid h1
 have H2 := Lib.hid h2
 clear h1 h2
 by_cases hnm : n = m
 · subst hnm
   go_enter Tryz.func72, Tryz.ntmps72
   go_wp2_with fail
   go_loopw [17] (fun i wr => EqRel w n l1 l2 i wr) (fun i _ => n - (intOf i).toNat)
   case atStart => exact ⟨0, Nat.zero_le _, rfl, Ext.refl _, rfl⟩
   case round =>
    obtain ⟨k, hk, rfl, hx, hp⟩ := hrel
    have HP := Lib.hid hp
    clear hp
    by_cases hlt : k < n
    · obtain ⟨b1, o1, r, rfl, hr, A1, n1, c1, e1, f1, g1, u1⟩ := (H1.out.ext hx).at_ hlt
      obtain ⟨b2, o2, s, rfl, hs, A2, n2, c2, e2, f2, g2, u2⟩ := (H2.out.ext hx).at_ hlt
      simp only [Nat.mul_one] at e1 e2
      have U1 := Lib.hid u1
      have U2 := Lib.hid u2
      have HR := Lib.hid hr
      have HS := Lib.hid hs
      clear hr hs u1 u2
      have hb2 : b2 < wr.heap.size := World.block_lt_of_cell? wr _ e2
      have hxa := ((Ext.refl wr).alloc (.cells #[.slice A1 n1 c1] 78)).alloc (.cells #[.slice A2 n2 c2] 78)
      have HX := Lib.hid hxa
      clear hxa
      go_wp2_with fail
      refine (SSame_any A1 n1 c1 A2 n2 c2 r s _ (U1.out.ext HX.out) (U2.out.ext HX.out) (by omega)).mono ?_
      rintro e w1 ⟨rfl, hx1⟩
      have hxw1 : Ext w w1 := (hx.trans HX.out).trans hx1
      by_cases hq : r = s
      · subst hq
        have HT := Lib.hid (take_eq_succ HP.out HR.out HS.out)
        rw [decide_eq_true rfl]
        go_wp2_with fail
        exact ⟨⟨k + 1, by omega, by go_num, hxw1, HT.out⟩, by simp [intOf]; omega⟩
      · have HN := Lib.hid (ne_at HR.out HS.out hq)
        rw [decide_eq_false hq]
        clear hq
        go_wp2_with fail
        go_ret
        exact ⟨ret_bool (decide_eq_false HN.out).symm, hxw1⟩
    · have hkn : k = n := by omega
      subst hkn
      have HQ := Lib.hid (eq_of_take L1.out L2.out HP.out)
      go_wp2_with fail
      go_ret
      exact ⟨ret_bool (decide_eq_true HQ.out).symm, hx⟩
 · have hb : ((n : Int) != (m : Int)) = true := by simp; omega
   have HN : Hid (¬ l1 = l2) := by
    show ¬ _
    intro h
    apply hnm
    rw [← L1.out, ← L2.out, h]
   go_enter Tryz.func72, Tryz.ntmps72
   go_wp2_with fail
   go_ret
   exact ⟨ret_bool (decide_eq_false HN.out).symm, Ext.refl _⟩
theorem SameRows_any (A : Option Addr) (n c : Nat) (B : Option Addr) (m d : Nat) (l1 l2 : List Row) (w : World) (h1 : RowsAt w A n l1) (h2 : RowsAt w B m l2) (hn : n ≤ 4611686018427387904) :
 Calls Tryz.prog 35 #[.slice A n c, .slice B m d] w fun e w' => e = .returned (.bool (decide (l1 = l2))) ∧ Ext w w' := by
 have H1 := Lib.hid h1
 have H2 := Lib.hid h2
 clear h1 h2
 go_enter Tryz.func35, Tryz.ntmps35
 go_wp2_with fail
 refine (EqualFunc_any A n c B m d l1 l2 _ H1.out H2.out hn).mono ?_
 rintro e w1 ⟨rfl, hx1⟩
 go_wp2_with fail
 go_ret
 exact ⟨rfl, hx1⟩
end
section
open Go.RowKit
theorem neq_reg (a b : Reg) (w : World) : (binOp .neq 53 a.val b.val).run Tryz.prog w = .ok (.bool (!decide (a = b))) w := by
 obtain ⟨nm, top, hgt, lft, wid, al, bot⟩ := a
 obtain ⟨nm', top', hgt', lft', wid', al', bot'⟩ := b
 unfold Reg.val
 dsimp only
 go_simp
 simp only [toList_inj]
 repeat' split
 all_goals simp_all
theorem neq_reg_yes (a b : Reg) (h : ¬ a = b) (w : World) : (binOp .neq 53 a.val b.val).run Tryz.prog w = .ok (.bool true) w := by rw [neq_reg, decide_eq_false h]; rfl
theorem neq_reg_no (a : Reg) (w : World) : (binOp .neq 53 a.val a.val).run Tryz.prog w = .ok (.bool false) w := by rw [neq_reg, decide_eq_true rfl]; rfl
set_option maxRecDepth 100000 in
set_option maxHeartbeats 2000000 in
theorem EqualRegs_any (A : Option Addr) (n c : Nat) (B : Option Addr) (m d : Nat) (l1 l2 : List Reg) (w : World) (h1 : RegsAt w A n l1) (h2 : RegsAt w B m l2) (hn : n ≤ 4611686018427387904) :
 Calls Tryz.prog 13 #[.slice A n c, .slice B m d] w fun e w' => e = .returned (.bool (decide (l1 = l2))) ∧ Ext w w' := by
 have L1 := Lib.hid h1.len
 have L2 := Lib.hid h2.len
 have H1 := Lib.hid h1
 have H2 := Lib.hid h2
 clear h1 h2
 by_cases hnm : n = m
 · subst hnm
   go_enter Tryz.func13, Tryz.ntmps13
   go_wp2_with fail
   go_loopw [13] (fun i wr => EqRel w n l1 l2 i wr) (fun i _ => n - (intOf i).toNat)
   case atStart => exact ⟨0, Nat.zero_le _, rfl, Ext.refl _, rfl⟩
   case round =>
    obtain ⟨k, hk, rfl, hx, hp⟩ := hrel
    have HP := Lib.hid hp
    clear hp
    by_cases hlt : k < n
    · obtain ⟨b1, o1, r, rfl, hr, c0, c1, c2, c3, c4, c5, c6⟩ := (H1.out.ext hx).at_ hlt
      obtain ⟨b2, o2, s, rfl, hs, d0, d1, d2, d3, d4, d5, d6⟩ := (H2.out.ext hx).at_ hlt
      have HR := Lib.hid hr
      have HS := Lib.hid hs
      clear hr hs
      have hk0 : (0 : Int) ≤ (k : Int) := by omega
      have hk1 : (k : Int) < (n : Int) := by omega
      by_cases hq : r = s
      · subst hq
        have HT := Lib.hid (take_eq_succ HP.out HR.out HS.out)
        have hne := fun w => neq_reg_no r w
        unfold Reg.val at hne
        go_wp2_with fail
        go_quiet (fail)
        go_wp2_with fail
        exact ⟨⟨k + 1, by omega, by go_num, hx.drewN _, HT.out⟩, by simp [intOf]; omega⟩
      · have hne := fun w => neq_reg_yes r s hq w
        have HN := Lib.hid (ne_at HR.out HS.out hq)
        unfold Reg.val at hne
        clear hq
        go_wp2_with fail
        go_quiet (fail)
        go_wp2_with fail
        go_ret
        exact ⟨ret_bool (decide_eq_false HN.out).symm, hx.drewN _⟩
    · have hkn : k = n := by omega
      subst hkn
      have HQ := Lib.hid (eq_of_take L1.out L2.out HP.out)
      go_wp2_with fail
      go_ret
      exact ⟨ret_bool (decide_eq_true HQ.out).symm, hx⟩
 · have hb : ((n : Int) != (m : Int)) = true := by simp; omega
   have HN : Hid (¬ l1 = l2) := by
    show ¬ _
    intro h
    apply hnm
    rw [← L1.out, ← L2.out, h]
   go_enter Tryz.func13, Tryz.ntmps13
   go_wp2_with fail
   go_ret
   exact ⟨ret_bool (decide_eq_false HN.out).symm, Ext.refl _⟩
end
section
open Go.RowKit
def Com.aggV (c : Com) : Value := .agg #[.int .i64 c.id, .int .i64 c.ev, .int .i64 c.fr, .int .i64 c.til, .string c.author, .string c.text, .bool c.done, .bool c.lost]
theorem neq_com (a b : Com) (w : World) : (binOp .neq 64 a.aggV b.aggV).run Tryz.prog w = .ok (.bool (!decide (a = b))) w := by
 obtain ⟨id, ev, fr, tl, au, tx, dn, lo⟩ := a
 obtain ⟨id', ev', fr', tl', au', tx', dn', lo'⟩ := b
 unfold Com.aggV
 dsimp only
 go_simp
 simp only [toList_inj]
 repeat' split
 all_goals simp_all
theorem neq_com_yes (a b : Com) (h : ¬ a = b) (w : World) : (binOp .neq 64 a.aggV b.aggV).run Tryz.prog w = .ok (.bool true) w := by rw [neq_com, decide_eq_false h]; rfl
theorem neq_com_no (a : Com) (w : World) : (binOp .neq 64 a.aggV a.aggV).run Tryz.prog w = .ok (.bool false) w := by rw [neq_com, decide_eq_true rfl]; rfl
set_option maxRecDepth 100000 in
set_option maxHeartbeats 2000000 in
theorem EqualComs_any (A : Option Addr) (n c : Nat) (B : Option Addr) (m d : Nat) (l1 l2 : List Com) (w : World) (h1 : ComsAt w A n l1) (h2 : ComsAt w B m l2) (hn : n ≤ 4611686018427387904) :
 Calls Tryz.prog 16 #[.slice A n c, .slice B m d] w fun e w' => e = .returned (.bool (decide (l1 = l2))) ∧ Ext w w' := by
 have L1 := Lib.hid h1.len
 have L2 := Lib.hid h2.len
 have H1 := Lib.hid h1
 have H2 := Lib.hid h2
 clear h1 h2
 by_cases hnm : n = m
 · subst hnm
   go_enter Tryz.func16, Tryz.ntmps16
   go_wp2_with fail
   go_loopw [13] (fun i wr => EqRel w n l1 l2 i wr) (fun i _ => n - (intOf i).toNat)
   case atStart => exact ⟨0, Nat.zero_le _, rfl, Ext.refl _, rfl⟩
   case round =>
    obtain ⟨k, hk, rfl, hx, hp⟩ := hrel
    have HP := Lib.hid hp
    clear hp
    by_cases hlt : k < n
    · obtain ⟨b1, o1, r, rfl, hr, c0, c1, c2, c3, c4, c5, c6, c7⟩ := (H1.out.ext hx).at8 hlt
      obtain ⟨b2, o2, s, rfl, hs, d0, d1, d2, d3, d4, d5, d6, d7⟩ := (H2.out.ext hx).at8 hlt
      have HR := Lib.hid hr
      have HS := Lib.hid hs
      clear hr hs
      have hk0 : (0 : Int) ≤ (k : Int) := by omega
      have hk1 : (k : Int) < (n : Int) := by omega
      by_cases hq : r = s
      · subst hq
        have HT := Lib.hid (take_eq_succ HP.out HR.out HS.out)
        have hne := fun w => neq_com_no r w
        unfold Com.aggV at hne
        go_wp2_with fail
        go_quiet (fail)
        go_wp2_with fail
        exact ⟨⟨k + 1, by omega, by go_num, hx.drewN _, HT.out⟩, by simp [intOf]; omega⟩
      · have hne := fun w => neq_com_yes r s hq w
        have HN := Lib.hid (ne_at HR.out HS.out hq)
        unfold Com.aggV at hne
        clear hq
        go_wp2_with fail
        go_quiet (fail)
        go_wp2_with fail
        go_ret
        exact ⟨ret_bool (decide_eq_false HN.out).symm, hx.drewN _⟩
    · have hkn : k = n := by omega
      subst hkn
      have HQ := Lib.hid (eq_of_take L1.out L2.out HP.out)
      go_wp2_with fail
      go_ret
      exact ⟨ret_bool (decide_eq_true HQ.out).symm, hx⟩
 · have hb : ((n : Int) != (m : Int)) = true := by simp; omega
   have HN : Hid (¬ l1 = l2) := by
    show ¬ _
    intro h
    apply hnm
    rw [← L1.out, ← L2.out, h]
   go_enter Tryz.func16, Tryz.ntmps16
   go_wp2_with fail
   go_ret
   exact ⟨ret_bool (decide_eq_false HN.out).symm, Ext.refl _⟩
end
section
open Go.RowKit
theorem eql_span (a b a' b' : Int) (w : World) : (binOp .eql 56 (.agg #[.int .i64 a, .int .i64 b]) (.agg #[.int .i64 a', .int .i64 b'])).run Tryz.prog w = .ok (.bool (decide (a = a' ∧ b = b'))) w := by
 go_simp
 repeat' split
 all_goals simp_all
theorem ev_ne {x y : Ev} (h : ¬ (x.id = y.id ∧ (x.inn = y.inn ∧ x.out = y.out) ∧ x.region.toList = y.region.toList ∧ x.kind = y.kind ∧ x.speaker.toList = y.speaker.toList ∧ x.rows = y.rows)) : decide (x = y) = false :=
 decide_eq_false (by rintro rfl; exact h ⟨rfl, ⟨rfl, rfl⟩, rfl, rfl, rfl, rfl⟩)
theorem ev_eq {x y : Ev} (h1 : x.id = y.id) (h2 : x.inn = y.inn ∧ x.out = y.out) (h3 : x.region.toList = y.region.toList) (h4 : x.kind = y.kind) (h5 : x.speaker.toList = y.speaker.toList) : decide (x = y) = decide (x.rows = y.rows) := by
 obtain ⟨a1, a2, a3, a4, a5, a6, a7⟩ := x
 obtain ⟨b1, b2, b3, b4, b5, b6, b7⟩ := y
 rw [toList_inj] at h3 h5
 simp_all
set_option maxRecDepth 100000 in
set_option maxHeartbeats 4000000 in
theorem ESame_any (x y : Ev) (A : Option Addr) (n c : Nat) (B : Option Addr) (m d : Nat) (w : World) (h1 : EvAt w x A n c) (h2 : EvAt w y B m d) :
 Calls Tryz.prog 15 #[.agg (x.cells A n c), .agg (y.cells B m d)] w fun e w' => e = .returned (.bool (decide (x = y))) ∧ Ext w w' := by
 have hn24 : n * 24 ≤ 140737488355328 := h1.2.2
 have H1 := Lib.hid h1
 have H2 := Lib.hid h2
 clear h1 h2
 have hx := ((Ext.refl w).alloc (.cells (x.cells A n c) 60)).alloc (.cells (y.cells B m d) 60)
 have HX := Lib.hid hx
 clear hx
 unfold Ev.cells at HX ⊢
 by_cases h0 : x.id = y.id
 · have b0 : (x.id == y.id) = true := by simpa using h0
   have E0 := Lib.hid h0
   clear h0
   by_cases h1 : x.inn = y.inn ∧ x.out = y.out
   · have b1 := fun w => (eql_span x.inn x.out y.inn y.out w).trans (by rw [decide_eq_true h1])
     have E1 := Lib.hid h1
     clear h1
     by_cases h2 : x.region.toList = y.region.toList
     · have b2 : (x.region.toList == y.region.toList) = true := by simpa using h2
       have E2 := Lib.hid h2
       clear h2
       by_cases h3 : x.kind = y.kind
       · have b3 : (x.kind == y.kind) = true := by simpa using h3
         have E3 := Lib.hid h3
         clear h3
         by_cases h4 : x.speaker.toList = y.speaker.toList
         · have b4 : (x.speaker.toList == y.speaker.toList) = true := by simpa using h4
           have E4 := Lib.hid h4
           clear h4
           have HF : Hid (decide (x = y) = decide (x.rows = y.rows)) := ev_eq E0.out E1.out E2.out E3.out E4.out
           go_enter Tryz.func15, Tryz.ntmps15
           go_wp2_with fail
           refine (SameRows_any A n c B m d x.rows y.rows _ (H1.out.1.ext HX.out) (H2.out.1.ext HX.out) (by omega)).mono ?_
           rintro en w1 ⟨rfl, hx1⟩
           go_wp2_with fail
           go_ret
           exact ⟨ret_bool HF.out.symm, HX.out.trans hx1⟩
         · have b4 : (x.speaker.toList == y.speaker.toList) = false := by simpa using h4
           have HF : Hid (decide (x = y) = false) := ev_ne (fun h => h4 h.2.2.2.2.1)
           clear h4
           go_enter Tryz.func15, Tryz.ntmps15
           go_wp2_with fail
           go_ret
           exact ⟨ret_bool HF.out.symm, HX.out⟩
       · have b3 : (x.kind == y.kind) = false := by simpa using h3
         have HF : Hid (decide (x = y) = false) := ev_ne (fun h => h3 h.2.2.2.1)
         clear h3
         go_enter Tryz.func15, Tryz.ntmps15
         go_wp2_with fail
         go_ret
         exact ⟨ret_bool HF.out.symm, HX.out⟩
     · have b2 : (x.region.toList == y.region.toList) = false := by simpa using h2
       have HF : Hid (decide (x = y) = false) := ev_ne (fun h => h2 h.2.2.1)
       clear h2
       go_enter Tryz.func15, Tryz.ntmps15
       go_wp2_with fail
       go_ret
       exact ⟨ret_bool HF.out.symm, HX.out⟩
   · have b1 := fun w => (eql_span x.inn x.out y.inn y.out w).trans (by rw [decide_eq_false h1])
     have HF : Hid (decide (x = y) = false) := ev_ne (fun h => h1 h.2.1)
     clear h1
     go_enter Tryz.func15, Tryz.ntmps15
     go_wp2_with fail
     go_ret
     exact ⟨ret_bool HF.out.symm, HX.out⟩
 · have b0 : (x.id == y.id) = false := by simpa using h0
   have HF : Hid (decide (x = y) = false) := ev_ne (fun h => h0 h.1)
   clear h0
   go_enter Tryz.func15, Tryz.ntmps15
   go_wp2_with fail
   go_ret
   exact ⟨ret_bool HF.out.symm, HX.out⟩
end
section
open Go.RowKit
set_option maxRecDepth 100000 in
set_option maxHeartbeats 2000000 in
theorem EqualEvs_any (A : Option Addr) (n c : Nat) (B : Option Addr) (m d : Nat) (l1 l2 : List Ev) (w : World) (h1 : EvsAt w A n l1) (h2 : EvsAt w B m l2) (hn : n ≤ 4611686018427387904) :
 Calls Tryz.prog 14 #[.slice A n c, .slice B m d, .func (.func 15) #[] #[]] w fun e w' => e = .returned (.bool (decide (l1 = l2))) ∧ Ext w w' := by
 have L1 := Lib.hid h1.len
 have L2 := Lib.hid h2.len
 have H1 := Lib.hid h1
 have H2 := Lib.hid h2
 clear h1 h2
 by_cases hnm : n = m
 · subst hnm
   go_enter Tryz.func14, Tryz.ntmps14
   go_wp2_with fail
   go_loopw [17] (fun i wr => EqRel w n l1 l2 i wr) (fun i _ => n - (intOf i).toNat)
   case atStart => exact ⟨0, Nat.zero_le _, rfl, Ext.refl _, rfl⟩
   case round =>
    obtain ⟨k, hk, rfl, hx, hp⟩ := hrel
    have HP := Lib.hid hp
    clear hp
    by_cases hlt : k < n
    · obtain ⟨b1, o1, r, A1, n1, c1, rfl, hr, u1, p0, p1, p2, p3, p4, p5, p6⟩ := (H1.out.ext hx).at_ev hlt
      obtain ⟨b2, o2, s, A2, n2, c2, rfl, hs, u2, q0, q1, q2, q3, q4, q5, q6⟩ := (H2.out.ext hx).at_ev hlt
      have U1 := Lib.hid u1
      have U2 := Lib.hid u2
      have HR := Lib.hid hr
      have HS := Lib.hid hs
      clear hr hs u1 u2
      have hb2 : b2 < wr.heap.size := World.block_lt_of_cell? wr _ q0
      have hxa := ((Ext.refl wr).alloc (.cells (r.cells A1 n1 c1) 60)).alloc (.cells (s.cells A2 n2 c2) 60)
      have HX := Lib.hid hxa
      clear hxa
      have HSame := Lib.hid (fun w a b => ESame_any r s A1 n1 c1 A2 n2 c2 w a b)
      unfold Ev.cells at HX HSame
      go_wp2_with fail
      refine (HSame.out _ (U1.out.ext HX.out) (U2.out.ext HX.out)).mono ?_
      rintro e w1 ⟨rfl, hx1⟩
      have hxw1 : Ext w w1 := (hx.trans HX.out).trans hx1
      by_cases hq : r = s
      · subst hq
        have HT := Lib.hid (take_eq_succ HP.out HR.out HS.out)
        rw [decide_eq_true rfl]
        go_wp2_with fail
        exact ⟨⟨k + 1, by omega, by go_num, hxw1, HT.out⟩, by simp [intOf]; omega⟩
      · have HN := Lib.hid (ne_at HR.out HS.out hq)
        rw [decide_eq_false hq]
        clear hq
        go_wp2_with fail
        go_ret
        exact ⟨ret_bool (decide_eq_false HN.out).symm, hxw1⟩
    · have hkn : k = n := by omega
      subst hkn
      have HQ := Lib.hid (eq_of_take L1.out L2.out HP.out)
      go_wp2_with fail
      go_ret
      exact ⟨ret_bool (decide_eq_true HQ.out).symm, hx⟩
 · have hb : ((n : Int) != (m : Int)) = true := by simp; omega
   have HN : Hid (¬ l1 = l2) := by
    show ¬ _
    intro h
    apply hnm
    rw [← L1.out, ← L2.out, h]
   go_enter Tryz.func14, Tryz.ntmps14
   go_wp2_with fail
   go_ret
   exact ⟨ret_bool (decide_eq_false HN.out).symm, Ext.refl _⟩
end
section
open Go.RowKit
def Doc.hd (d : Doc) : ByteArray × ByteArray × Int × Bool × Int := (d.title, d.lang, d.rate, d.drop, d.last)
def sameDoc (a b : Doc) : Bool := decide (a.hd = b.hd) && (decide (a.regs = b.regs) && (decide (a.evs = b.evs) && decide (a.coms = b.coms)))
theorem sameDoc_self (a : Doc) : sameDoc a a = true := by simp [sameDoc]
theorem eql_head (a b : Doc) (w : World) : (binOp .eql 48 a.head b.head).run Tryz.prog w = .ok (.bool (decide (a.hd = b.hd))) w := by
 obtain ⟨a1, a2, a3, a4, a5, a6, a7, a8⟩ := a
 obtain ⟨b1, b2, b3, b4, b5, b6, b7, b8⟩ := b
 unfold Doc.head Doc.hd
 dsimp only
 go_simp
 simp only [toList_inj]
 repeat' split
 all_goals simp_all
set_option maxRecDepth 100000 in
set_option maxHeartbeats 4000000 in
theorem DSame_big (a b : Doc) (h k : DocH) (w : World) (hA : DocAt w a h) (hB : DocAt w b k) (h1 : h.rn ≤ 4611686018427387904 ∧ h.en ≤ 4611686018427387904 ∧ h.cn ≤ 4611686018427387904) :
 Calls Tryz.prog 7 #[.agg (a.cells h), .agg (b.cells k)] w fun en w' => en = .returned (.bool (sameDoc a b)) ∧ Ext w w' := by
 have HX : Hid (Ext w ((w.alloc (.cells (a.cells h) 27)).alloc (.cells (b.cells k) 27))) := ((Ext.refl w).alloc _).alloc _
 have HBa : Hid (Blk ((w.alloc (.cells (a.cells h) 27)).alloc (.cells (b.cells k) 27)) w.heap.size 27 (a.cells h)) := (Blk.new w 27 (a.cells h)).alloc _
 have HBb : Hid (Blk ((w.alloc (.cells (a.cells h) 27)).alloc (.cells (b.cells k) 27)) (w.heap.size + 1) 27 (b.cells k)) := Blk.new' (by simp)
 have HHa := Lib.hid (fun (y : EW ((w.alloc (.cells (a.cells h) 27)).alloc (.cells (b.cells k) 27))) => DHead_any a h y.w)
 have HHb := Lib.hid (fun (y : EW ((w.alloc (.cells (a.cells h) 27)).alloc (.cells (b.cells k) 27))) => DHead_any b k y.w)
 have HR := Lib.hid (fun (y : EW ((w.alloc (.cells (a.cells h) 27)).alloc (.cells (b.cells k) 27))) => EqualRegs_any h.ra h.rn h.rc k.ra k.rn k.rc a.regs b.regs y.w (hA.regs.ext (HX.out.trans y.ext)) (hB.regs.ext (HX.out.trans y.ext)) (by omega))
 have HE := Lib.hid (fun (y : EW ((w.alloc (.cells (a.cells h) 27)).alloc (.cells (b.cells k) 27))) => EqualEvs_any h.ea h.en h.ec k.ea k.en k.ec a.evs b.evs y.w (hA.evs.ext (HX.out.trans y.ext)) (hB.evs.ext (HX.out.trans y.ext)) (by omega))
 have HC := Lib.hid (fun (y : EW ((w.alloc (.cells (a.cells h) 27)).alloc (.cells (b.cells k) 27))) => EqualComs_any h.ca h.cn h.cc k.ca k.cn k.cc a.coms b.coms y.w (hA.coms.ext (HX.out.trans y.ext)) (hB.coms.ext (HX.out.trans y.ext)) (by omega))
 have hq0 := fun w => eql_head a b w
 clear hA hB
 unfold Doc.head at HHa HHb hq0
 unfold Doc.cells at *
 obtain ⟨hra, hrn, hrc, hea, hen, hec, hca, hcn, hcc⟩ := h
 obtain ⟨kra, krn, krc, kea, ken, kec, kca, kcn, kcc⟩ := k
 dsimp only at *
 have HS : Hid (sameDoc a b = (decide (a.hd = b.hd) && (decide (a.regs = b.regs) && (decide (a.evs = b.evs) && decide (a.coms = b.coms))))) := rfl
 generalize decide (a.regs = b.regs) = vr at *
 generalize decide (a.evs = b.evs) = ve at *
 generalize decide (a.coms = b.coms) = vc at *
 generalize decide (a.hd = b.hd) = vh at *
 have HQ := Lib.hid hq0
 clear hq0
 cases vh
 · have hq := fun w => HQ.out w
   go_enter Tryz.func7, Tryz.ntmps7
   go_wp2_with fail
   have hr_1 := fun (x : EW ((w.alloc (.cells #[.string a.title, .string a.lang, .int .u8 a.rate, .bool a.drop, .int .i64 a.last, .slice hra hrn hrc, .slice hea hen hec, .slice hca hcn hcc] 27)).alloc (.cells #[.string b.title, .string b.lang, .int .u8 b.rate, .bool b.drop, .int .i64 b.last, .slice kra krn krc, .slice kea ken kec, .slice kca kcn kcc] 27))) (o : Nat) => (HBa.out.ext x.ext).cell o
   have hr_2 := fun (x : EW ((w.alloc (.cells #[.string a.title, .string a.lang, .int .u8 a.rate, .bool a.drop, .int .i64 a.last, .slice hra hrn hrc, .slice hea hen hec, .slice hca hcn hcc] 27)).alloc (.cells #[.string b.title, .string b.lang, .int .u8 b.rate, .bool b.drop, .int .i64 b.last, .slice kra krn krc, .slice kea ken kec, .slice kca kcn kcc] 27))) (o : Nat) => (HBb.out.ext x.ext).cell o
   refine wp_region_ew ((w.alloc (.cells #[.string a.title, .string a.lang, .int .u8 a.rate, .bool a.drop, .int .i64 a.last, .slice hra hrn hrc, .slice hea hen hec, .slice hca hcn hcc] 27)).alloc (.cells #[.string b.title, .string b.lang, .int .u8 b.rate, .bool b.drop, .int .i64 b.last, .slice kra krn krc, .slice kea ken kec, .slice kca kcn kcc] 27)) (Ext.refl _) (by kernel_rfl) (by kernel_rfl) ?_
   repeat (go_big_quiet_step ((first | (go_at_call 12; first | with_reducible exact EW.calls _ (HHa.out _) | with_reducible exact EW.calls _ (HHb.out _)) | (go_at_call 13; exact EW.calls _ (HR.out _)) | (go_at_call 14; exact EW.calls _ (HE.out _)) | (go_at_call 16; exact EW.calls _ (HC.out _)))))
   refine wpQuiet_nil ?_
   rintro w_3 ⟨⟨_, hx_4⟩, rfl⟩
   try dsimp only
   clear hr_1 hr_2
   have HX_5 := Lib.hid (HX.out.trans hx_4)
   have HB_6 := Lib.hid (HBa.out.ext hx_4)
   have HB_7 := Lib.hid (HBb.out.ext hx_4)
   clear hx_4 HX HBa HBb
   go_wp2_with fail
   go_ret
   exact ⟨by rw [HS.out]; rfl, HX_5.out⟩
 cases vr
 · have hq := fun w => HQ.out w
   go_enter Tryz.func7, Tryz.ntmps7
   go_wp2_with fail
   have hr_8 := fun (x : EW ((w.alloc (.cells #[.string a.title, .string a.lang, .int .u8 a.rate, .bool a.drop, .int .i64 a.last, .slice hra hrn hrc, .slice hea hen hec, .slice hca hcn hcc] 27)).alloc (.cells #[.string b.title, .string b.lang, .int .u8 b.rate, .bool b.drop, .int .i64 b.last, .slice kra krn krc, .slice kea ken kec, .slice kca kcn kcc] 27))) (o : Nat) => (HBa.out.ext x.ext).cell o
   have hr_9 := fun (x : EW ((w.alloc (.cells #[.string a.title, .string a.lang, .int .u8 a.rate, .bool a.drop, .int .i64 a.last, .slice hra hrn hrc, .slice hea hen hec, .slice hca hcn hcc] 27)).alloc (.cells #[.string b.title, .string b.lang, .int .u8 b.rate, .bool b.drop, .int .i64 b.last, .slice kra krn krc, .slice kea ken kec, .slice kca kcn kcc] 27))) (o : Nat) => (HBb.out.ext x.ext).cell o
   refine wp_region_ew ((w.alloc (.cells #[.string a.title, .string a.lang, .int .u8 a.rate, .bool a.drop, .int .i64 a.last, .slice hra hrn hrc, .slice hea hen hec, .slice hca hcn hcc] 27)).alloc (.cells #[.string b.title, .string b.lang, .int .u8 b.rate, .bool b.drop, .int .i64 b.last, .slice kra krn krc, .slice kea ken kec, .slice kca kcn kcc] 27)) (Ext.refl _) (by kernel_rfl) (by kernel_rfl) ?_
   repeat (go_big_quiet_step ((first | (go_at_call 12; first | with_reducible exact EW.calls _ (HHa.out _) | with_reducible exact EW.calls _ (HHb.out _)) | (go_at_call 13; exact EW.calls _ (HR.out _)) | (go_at_call 14; exact EW.calls _ (HE.out _)) | (go_at_call 16; exact EW.calls _ (HC.out _)))))
   refine wpQuiet_nil ?_
   rintro w_10 ⟨⟨_, hx_11⟩, rfl⟩
   try dsimp only
   clear hr_8 hr_9
   have HX_12 := Lib.hid (HX.out.trans hx_11)
   have HB_13 := Lib.hid (HBa.out.ext hx_11)
   have HB_14 := Lib.hid (HBb.out.ext hx_11)
   clear hx_11 HX HBa HBb
   go_wp2_with fail
   go_ret
   exact ⟨by rw [HS.out]; rfl, HX_12.out⟩
 cases ve
 · have hq := fun w => HQ.out w
   go_enter Tryz.func7, Tryz.ntmps7
   go_wp2_with fail
   have hr_15 := fun (x : EW ((w.alloc (.cells #[.string a.title, .string a.lang, .int .u8 a.rate, .bool a.drop, .int .i64 a.last, .slice hra hrn hrc, .slice hea hen hec, .slice hca hcn hcc] 27)).alloc (.cells #[.string b.title, .string b.lang, .int .u8 b.rate, .bool b.drop, .int .i64 b.last, .slice kra krn krc, .slice kea ken kec, .slice kca kcn kcc] 27))) (o : Nat) => (HBa.out.ext x.ext).cell o
   have hr_16 := fun (x : EW ((w.alloc (.cells #[.string a.title, .string a.lang, .int .u8 a.rate, .bool a.drop, .int .i64 a.last, .slice hra hrn hrc, .slice hea hen hec, .slice hca hcn hcc] 27)).alloc (.cells #[.string b.title, .string b.lang, .int .u8 b.rate, .bool b.drop, .int .i64 b.last, .slice kra krn krc, .slice kea ken kec, .slice kca kcn kcc] 27))) (o : Nat) => (HBb.out.ext x.ext).cell o
   refine wp_region_ew ((w.alloc (.cells #[.string a.title, .string a.lang, .int .u8 a.rate, .bool a.drop, .int .i64 a.last, .slice hra hrn hrc, .slice hea hen hec, .slice hca hcn hcc] 27)).alloc (.cells #[.string b.title, .string b.lang, .int .u8 b.rate, .bool b.drop, .int .i64 b.last, .slice kra krn krc, .slice kea ken kec, .slice kca kcn kcc] 27)) (Ext.refl _) (by kernel_rfl) (by kernel_rfl) ?_
   repeat (go_big_quiet_step ((first | (go_at_call 12; first | with_reducible exact EW.calls _ (HHa.out _) | with_reducible exact EW.calls _ (HHb.out _)) | (go_at_call 13; exact EW.calls _ (HR.out _)) | (go_at_call 14; exact EW.calls _ (HE.out _)) | (go_at_call 16; exact EW.calls _ (HC.out _)))))
   refine wpQuiet_nil ?_
   rintro w_17 ⟨⟨_, hx_18⟩, rfl⟩
   try dsimp only
   clear hr_15 hr_16
   have HX_19 := Lib.hid (HX.out.trans hx_18)
   have HB_20 := Lib.hid (HBa.out.ext hx_18)
   have HB_21 := Lib.hid (HBb.out.ext hx_18)
   clear hx_18 HX HBa HBb
   go_wp2_with fail
   go_ret
   exact ⟨by rw [HS.out]; rfl, HX_19.out⟩
 have hq := fun w => HQ.out w
 go_enter Tryz.func7, Tryz.ntmps7
 go_wp2_with fail
 have hr_22 := fun (x : EW ((w.alloc (.cells #[.string a.title, .string a.lang, .int .u8 a.rate, .bool a.drop, .int .i64 a.last, .slice hra hrn hrc, .slice hea hen hec, .slice hca hcn hcc] 27)).alloc (.cells #[.string b.title, .string b.lang, .int .u8 b.rate, .bool b.drop, .int .i64 b.last, .slice kra krn krc, .slice kea ken kec, .slice kca kcn kcc] 27))) (o : Nat) => (HBa.out.ext x.ext).cell o
 have hr_23 := fun (x : EW ((w.alloc (.cells #[.string a.title, .string a.lang, .int .u8 a.rate, .bool a.drop, .int .i64 a.last, .slice hra hrn hrc, .slice hea hen hec, .slice hca hcn hcc] 27)).alloc (.cells #[.string b.title, .string b.lang, .int .u8 b.rate, .bool b.drop, .int .i64 b.last, .slice kra krn krc, .slice kea ken kec, .slice kca kcn kcc] 27))) (o : Nat) => (HBb.out.ext x.ext).cell o
 refine wp_region_ew ((w.alloc (.cells #[.string a.title, .string a.lang, .int .u8 a.rate, .bool a.drop, .int .i64 a.last, .slice hra hrn hrc, .slice hea hen hec, .slice hca hcn hcc] 27)).alloc (.cells #[.string b.title, .string b.lang, .int .u8 b.rate, .bool b.drop, .int .i64 b.last, .slice kra krn krc, .slice kea ken kec, .slice kca kcn kcc] 27)) (Ext.refl _) (by kernel_rfl) (by kernel_rfl) ?_
 repeat (go_big_quiet_step ((first | (go_at_call 12; first | with_reducible exact EW.calls _ (HHa.out _) | with_reducible exact EW.calls _ (HHb.out _)) | (go_at_call 13; exact EW.calls _ (HR.out _)) | (go_at_call 14; exact EW.calls _ (HE.out _)) | (go_at_call 16; exact EW.calls _ (HC.out _)))))
 refine wpQuiet_nil ?_
 rintro w_24 ⟨⟨_, hx_25⟩, rfl⟩
 try dsimp only
 clear hr_22 hr_23
 have HX_26 := Lib.hid (HX.out.trans hx_25)
 have HB_27 := Lib.hid (HBa.out.ext hx_25)
 have HB_28 := Lib.hid (HBb.out.ext hx_25)
 clear hx_25 HX HBa HBb
 go_wp2_with fail
 go_ret
 exact ⟨by rw [HS.out]; rfl, HX_26.out⟩
theorem DSame_any (a b : Doc) (h k : DocH) (w : World) (hA : DocAt w a h) (hB : DocAt w b k) (h1 : h.rn ≤ 1000000000 ∧ h.en ≤ 1000000000 ∧ h.cn ≤ 1000000000) :
 Calls Tryz.prog 7 #[.agg (a.cells h), .agg (b.cells k)] w fun en w' => en = .returned (.bool (sameDoc a b)) ∧ Ext w w' := DSame_big a b h k w hA hB (by omega)
end
end Go.Proofs.YtbmblnhfmpolbaaGreatDoor