/- The walk of the reference's Join. -/
import Derived.Test.YtcgflkmkdpgchaaDoorJoin
namespace Go.Proofs.YtcgflkmkdpgchaaDoor
set_option linter.unusedVariables false
set_option linter.unusedSimpArgs false
open Go.RowKit

def RJoinSt (x y : Ev) (A1 : Option Addr) (n c1 m g6 : Nat) (w w3 : World) : List Value → World → Prop
  | [], w' => Ext w3 w'
  | [v], w' => ∃ A4 c4 hs2, v = .agg (y.cells A4 m c4) ∧ Ext w3 w' ∧ Sl w' 1 (Cells fun h => [Hd.val h]) A4 m hs2 ∧ hs2.length = m ∧ Goods w' hs2 y.rows ∧ y.rows.length = m ∧ ∀ h ∈ hs2, Fresh w' 48 w.heap.size h.1
  | [_, v], w' => ∃ A4 c4 hs2, v = .slice A4 m c4 ∧ Ext w3 w' ∧ Sl w' 1 (Cells fun h => [Hd.val h]) A4 m hs2 ∧ hs2.length = m ∧ Goods w' hs2 y.rows ∧ y.rows.length = m ∧ ∀ h ∈ hs2, Fresh w' 48 w.heap.size h.1
  | [_, _, v], w' => ∃ A5 c5, v = .slice A5 (n + m) c5 ∧ n + m ≤ c5 ∧ RowsOwn w' w.heap.size A5 (n + m) c5 (x.rows ++ y.rows) ∧ Below w.heap.size w w' ∧ w3.heap.size ≤ w'.heap.size ∧ (∀ g t cs, Blk w3 g t cs → t ≠ 43 → Blk w' g t cs)
  | [_, _, _, _], w' => ∃ A5 c5, n + m ≤ c5 ∧ RowsOwn w' w.heap.size A5 (n + m) c5 (x.rows ++ y.rows) ∧ Ext w w' ∧ w3.heap.size ≤ w'.heap.size ∧ (∀ g t cs, Blk w3 g t cs → t ≠ 43 → g ≠ g6 → Blk w' g t cs) ∧ Blk w' g6 27 (x.cells A5 (n + m) c5)
  | _, _ => False
theorem rjoinSt_ext {x y : Ev} {A1 : Option Addr} {n c1 m g6 : Nat} {w w3 : World} {us : List Value} {w' : World} (h : RJoinSt x y A1 n c1 m g6 w w3 us w') (hl : us.length ≤ 2) : Ext w3 w' := by
  match us, hl with
  | [], _ => exact h
  | [_], _ => obtain ⟨_, _, _, _, h1, _⟩ := h; exact h1
  | [_, _], _ => obtain ⟨_, _, _, _, h1, _⟩ := h; exact h1
/-- the region that sets the span of the joined event -/
def RJ7 (x y : Ev) (A5 : Option Addr) (k c5 g6 : Nat) (w6 : World) : List Value → World → Prop
  | [], w' => w' = w6.drew
  | [_], w' => w' = putB w6.drew g6 27 ((x.cells A5 k c5).setIfInBounds 1 (.int .i64 (min x.inn y.inn)))
  | [_, _], w' => w' = putB w6.drew g6 27 ((x.joined y).cells A5 k c5)
  | _, _ => False
theorem rj7_blk {x y : Ev} {A5 : Option Addr} {k c5 g6 : Nat} {w6 : World} {us : List Value} {w' : World} (h : RJ7 x y A5 k c5 g6 w6 us w') {g : Nat} (hg : g ≠ g6) {t : TypeId} {cs : Array Value} (hB : Blk w6 g t cs) : Blk w' g t cs := by
  match us, h with
  | [], h => subst h; exact hB
  | [_], h => subst h; exact (show Blk w6.drew g t cs from hB).put_other (Ne.symm hg) _
  | [_, _], h => subst h; exact (show Blk w6.drew g t cs from hB).put_other (Ne.symm hg) _

set_option maxRecDepth 100000 in
set_option maxHeartbeats 4000000 in
theorem rjoin_late (x y : Ev) (A : Option Addr) (n c : Nat) (B : Option Addr) (m d : Nat) (w : World) (hl : lessB x y = false) :
    Calls Tryd.prog 17 #[.agg (x.cells A n c), .agg (y.cells B m d)] w fun en w' => en = .returned (.tuple #[.agg evZero, .int .i64 8]) ∧ Ext w w' := by
  have HX := Lib.hid ((((Ext.refl w).alloc (.cells (x.cells A n c) 27)).alloc (.cells (y.cells B m d) 27)).alloc (.cells evZero 27))
  have HB0 := Lib.hid (((Blk.new w 27 (x.cells A n c)).alloc (.cells (y.cells B m d) 27)).alloc (.cells evZero 27))
  have HB1 := Lib.hid ((Blk.new' (w := w.alloc (.cells (x.cells A n c) 27)) (g := w.heap.size + 1) (t := 27) (cs := y.cells B m d) (by simp)).alloc (.cells evZero 27))
  have HB2 := Lib.hid (Blk.new' (w := (w.alloc (.cells (x.cells A n c) 27)).alloc (.cells (y.cells B m d) 27)) (g := w.heap.size + 1 + 1) (t := 27) (cs := evZero) (by simp))
  have HL := Lib.hid (fun w => by have := RLess_any x y A n c B m d w; rwa [hl] at this : ∀ w, Calls Tryd.prog 13 #[.agg (x.cells A n c), .agg (y.cells B m d)] w fun en w' => en = .returned (.bool false) ∧ Ext w w')
  clear hl
  unfold evZero at HB0 HB1 HB2 HX
  go_enter Tryd.func17, Tryd.ntmps17
  go_wp2_with (first | (refine wpList_loadB rfl 27 (.tmp 2) rfl w.heap.size 27 _ _ (by exact rfl) (by exact HB0.out) Tryd.underlying27 rfl (by exact size_event) ?_) | (refine wpList_loadB rfl 27 (.tmp 3) rfl (w.heap.size + 1) 27 _ _ (by exact rfl) (by exact HB1.out) Tryd.underlying27 rfl (by exact size_event) ?_))
  refine (HL.out _).mono ?_
  rintro en w1 ⟨rfl, hx1⟩
  have HX1 := Lib.hid (HX.out.trans hx1)
  have HB3 := Lib.hid (HB2.out.ext hx1)
  clear hx1
  go_wp2_with (refine wpList_storeB rfl 27 (.tmp 4) (.tmp 11) rfl (w.heap.size + 1 + 1) 27 _ _ (by exact rfl) (by exact rfl) (by exact HB3.out) (by exact rfl) (by exact size_event) (by simp [Value.oneCell']) ?_)
  refine bodyPost_ret (v := .tuple #[.agg evZero, .int .i64 8]) ?_ rfl ⟨rfl, ?_⟩
  · exact results_B_tmp (P := Tryd.prog) Tryd.results17 (g := w.heap.size + 1 + 1) rfl (by exact HB3.out.put _) Tryd.underlying27 rfl size_event
  · exact HX1.out.put (by omega) _ _

set_option maxRecDepth 100000 in
set_option maxHeartbeats 4000000 in
theorem rjoin_long (x y : Ev) (A : Option Addr) (n c : Nat) (B : Option Addr) (m d : Nat) (w : World) (hl : lessB x y = true) (hn : n * 24 ≤ 140737488355328) (hm : m * 24 ≤ 140737488355328) (h4 : 4 < n + m) :
    Calls Tryd.prog 17 #[.agg (x.cells A n c), .agg (y.cells B m d)] w fun en w' => en = .returned (.tuple #[.agg evZero, .int .i64 9]) ∧ Ext w w' := by
  have HX := Lib.hid ((((Ext.refl w).alloc (.cells (x.cells A n c) 27)).alloc (.cells (y.cells B m d) 27)).alloc (.cells evZero 27))
  have HB0 := Lib.hid (((Blk.new w 27 (x.cells A n c)).alloc (.cells (y.cells B m d) 27)).alloc (.cells evZero 27))
  have HB1 := Lib.hid ((Blk.new' (w := w.alloc (.cells (x.cells A n c) 27)) (g := w.heap.size + 1) (t := 27) (cs := y.cells B m d) (by simp)).alloc (.cells evZero 27))
  have HB2 := Lib.hid (Blk.new' (w := (w.alloc (.cells (x.cells A n c) 27)).alloc (.cells (y.cells B m d) 27)) (g := w.heap.size + 1 + 1) (t := 27) (cs := evZero) (by simp))
  have HL := Lib.hid (fun w => by have := RLess_any x y A n c B m d w; rwa [hl] at this : ∀ w, Calls Tryd.prog 13 #[.agg (x.cells A n c), .agg (y.cells B m d)] w fun en w' => en = .returned (.bool true) ∧ Ext w w')
  clear hl
  unfold evZero at HB0 HB1 HB2 HX
  go_enter Tryd.func17, Tryd.ntmps17
  go_wp2_with (first | (refine wpList_loadB rfl 27 (.tmp 2) rfl w.heap.size 27 _ _ (by exact rfl) (by exact HB0.out) Tryd.underlying27 rfl (by exact size_event) ?_) | (refine wpList_loadB rfl 27 (.tmp 3) rfl (w.heap.size + 1) 27 _ _ (by exact rfl) (by exact HB1.out) Tryd.underlying27 rfl (by exact size_event) ?_))
  refine (HL.out _).mono ?_
  rintro en w1 ⟨rfl, hx1⟩
  have HX1 := Lib.hid (HX.out.trans hx1)
  have HB3 := Lib.hid (HB2.out.ext hx1)
  have HB4 := Lib.hid (HB0.out.ext hx1)
  have HB5 := Lib.hid (HB1.out.ext hx1)
  clear hx1 HB0 HB1 HB2 HX
  have hc0 := fun o => HB4.out.cell o
  have hc1 := fun o => HB5.out.cell o
  unfold Ev.cells at hc0 hc1
  have h4' : (4 : Int) < (n : Int) + (m : Int) := by omega
  go_wp2_with (refine wpList_storeB rfl 27 (.tmp 4) (.tmp 20) rfl (w.heap.size + 1 + 1) 27 _ _ (by exact rfl) (by exact rfl) (by exact HB3.out) (by exact rfl) (by exact size_event) (by simp [Value.oneCell']) ?_)
  refine bodyPost_ret (v := .tuple #[.agg evZero, .int .i64 9]) ?_ rfl ⟨rfl, ?_⟩
  · exact results_B_tmp (P := Tryd.prog) Tryd.results17 (g := w.heap.size + 1 + 1) rfl (by exact HB3.out.put _) Tryd.underlying27 rfl size_event
  · exact HX1.out.put (by omega) _ _

set_option maxRecDepth 100000 in
set_option maxHeartbeats 4000000 in
theorem rjoin_good (x y : Ev) (A : Option Addr) (n c : Nat) (B : Option Addr) (m d : Nat) (w : World) (hex : EvAt w x A n c) (hey : EvAt w y B m d) (hl : lessB x y = true) (h4 : n + m ≤ 4) :
    Calls Tryd.prog 17 #[.agg (x.cells A n c), .agg (y.cells B m d)] w fun en w' => ∃ A' c', en = .returned (.tuple #[.agg ((x.joined y).cells A' (n + m) c'), .int .i64 0]) ∧ n + m ≤ c' ∧ RowsFresh w' w.heap.size A' (n + m) (x.rows ++ y.rows) ∧ Ext w w' := by
  have HEx := Lib.hid hex
  have HEy := Lib.hid hey
  clear hex hey
  have HX := Lib.hid ((((Ext.refl w).alloc (.cells (x.cells A n c) 27)).alloc (.cells (y.cells B m d) 27)).alloc (.cells evZero 27))
  have HB0 := Lib.hid (((Blk.new w 27 (x.cells A n c)).alloc (.cells (y.cells B m d) 27)).alloc (.cells evZero 27))
  have HB1 := Lib.hid ((Blk.new' (w := w.alloc (.cells (x.cells A n c) 27)) (g := w.heap.size + 1) (t := 27) (cs := y.cells B m d) (by simp)).alloc (.cells evZero 27))
  have HB2 := Lib.hid (Blk.new' (w := (w.alloc (.cells (x.cells A n c) 27)).alloc (.cells (y.cells B m d) 27)) (g := w.heap.size + 1 + 1) (t := 27) (cs := evZero) (by simp))
  have HL := Lib.hid (fun w => by have := RLess_any x y A n c B m d w; rwa [hl] at this : ∀ w, Calls Tryd.prog 13 #[.agg (x.cells A n c), .agg (y.cells B m d)] w fun en w' => en = .returned (.bool true) ∧ Ext w w')
  clear hl
  unfold evZero at HB0 HB1 HB2 HX
  go_enter Tryd.func17, Tryd.ntmps17
  go_wp2_with (first | (refine wpList_loadB rfl 27 (.tmp 2) rfl w.heap.size 27 _ _ (by exact rfl) (by exact HB0.out) Tryd.underlying27 rfl (by exact size_event) ?_) | (refine wpList_loadB rfl 27 (.tmp 3) rfl (w.heap.size + 1) 27 _ _ (by exact rfl) (by exact HB1.out) Tryd.underlying27 rfl (by exact size_event) ?_))
  refine (HL.out _).mono ?_
  rintro en w1 ⟨rfl, hx1⟩
  have HX1 := Lib.hid (HX.out.trans hx1)
  have HB3 := Lib.hid (HB2.out.ext hx1)
  have HB4 := Lib.hid (HB0.out.ext hx1)
  have HB5 := Lib.hid (HB1.out.ext hx1)
  clear hx1 HB0 HB1 HB2 HX
  have hc0 := fun o => HB4.out.cell o
  have hc1 := fun o => HB5.out.cell o
  unfold Ev.cells at hc0 hc1
  have h4' : (n : Int) + (m : Int) ≤ 4 := by omega
  have HEx1 := Lib.hid (HEx.out.ext HX1.out)
  have HEy1 := Lib.hid (HEy.out.ext HX1.out)
  go_wp2_with (refine wpList_loadB rfl 27 (.tmp 2) rfl w.heap.size 27 _ _ (by exact rfl) (by exact HB4.out) Tryd.underlying27 rfl (by exact size_event) ?_)
  refine (REClone_own x A n c w1 HEx1.out).mono ?_
  rintro en w2 ⟨A1, c1, rfl, hnc1, hrf, hx2⟩
  have HX2 := Lib.hid (HX1.out.trans hx2)
  have HRO := Lib.hid hrf
  have HZ := Lib.hid (Blk.new w2 27 evZero)
  have HXZ := Lib.hid ((Ext.refl w2).alloc (.cells evZero 27))
  have HB6 := Lib.hid (HB3.out.ext hx2)
  have HB7 := Lib.hid (HB4.out.ext hx2)
  have HB8 := Lib.hid (HB5.out.ext hx2)
  have HEy2 := Lib.hid (HEy1.out.ext hx2)
  have hs2 := hx2.size
  clear hx2 hrf hc0 hc1 HB3 HB4 HB5 HEx1 HEy1
  unfold evZero at HZ HXZ
  go_upto_region 6 with (refine wpList_storeB rfl 27 (.tmp 6) (.tmp 22) rfl w2.heap.size 27 _ _ (by exact rfl) (by exact rfl) (by exact HZ.out) (by exact rfl) (by exact size_event) (by simp [Ev.cells, Value.oneCell']) ?_)
  have hb3 := HZ.out.put (x.cells A1 n c1)
  have hro3 := ((HRO.out.ext HXZ.out).put HZ.out (x.cells A1 n c1) (by decide) (by decide)).le HX1.out.size
  have hx3 := (HX2.out.trans HXZ.out).put HX2.out.size 27 (x.cells A1 n c1)
  have hxz3 : Ext w2 (putB (w2.alloc (.cells evZero 27)) w2.heap.size 27 (x.cells A1 n c1)) := (HXZ.out).put (Nat.le_refl _) 27 (x.cells A1 n c1)
  unfold evZero at hxz3
  generalize putB (w2.alloc _) w2.heap.size 27 (x.cells A1 n c1) = w3 at hb3 hro3 hx3 hxz3 ⊢
  have HB3a := Lib.hid (HB6.out.ext hxz3)
  have HB3b := Lib.hid (HB7.out.ext hxz3)
  have HB3c := Lib.hid (HB8.out.ext hxz3)
  have HB3d := Lib.hid hb3
  have HX3 := Lib.hid hx3
  have HEy3 := Lib.hid (HEy2.out.ext hxz3)
  have hg6 : w.heap.size ≤ w2.heap.size := HX2.out.size
  have hg6' : w2.heap.size < w3.heap.size := hb3.lt
  have hg6l : w.heap.size + 1 + 1 < w2.heap.size := HB6.out.lt
  generalize w2.heap.size = g6 at *
  clear HZ HXZ HB6 HB7 HB8 HRO HX2 HEy2 hxz3 hx3 hs2 hb3 HX1
  obtain ⟨hs1, ho1, hl1, hg1, hr1, hf1⟩ := hro3
  have HO1 := Lib.hid ho1
  have HG1 := Lib.hid hg1
  have HF1 := Lib.hid hf1
  clear ho1 hg1 hf1
  have HT1 := Lib.hid (own_typed HO1.out)
  refine wp_region_chain [3, 4, 5, 7] [.pointer (some ⟨g6, 6, none⟩), .slice A1 n c1, .agg (y.cells B m d), undef, undef, undef, .pointer (some ⟨g6, 6, none⟩), undef] (RJoinSt x y A1 n c1 m g6 w w3) (by kernel_rfl) (by kernel_rfl) (by kernel_rfl) (by kernel_rfl) (by decide) ?_ ?_ ?_ ?_
  · exact (Ext.refl w3).drew
  · intro i o ho hc a w' us K' hJ hF hlim hk
    match i, ho with
    | 0, ho =>
      simp only [List.getElem?_toArray, List.getElem?_cons_zero, List.getElem?_cons_succ, Option.some.injEq] at ho
      subst ho
      refine want_none rfl ?_
      have e0 : a.eval (.tmp 6) = .pointer (some ⟨g6, 0, none⟩) := (hF.old 6 rfl).trans rfl
      simp [Act.eval] at e0
      go_simp
      exact hk
    | 1, ho =>
      simp only [List.getElem?_toArray, List.getElem?_cons_zero, List.getElem?_cons_succ, Option.some.injEq] at ho
      subst ho
      refine want_none rfl ?_
      have e0 := hF.pure 0 23 _ rfl rfl rfl rfl
      have hlt := hlim 2 5 _ rfl rfl rfl
      have hcc : w'.cell? ⟨g6, 6, none⟩ = some (.slice A1 n c1) := (rjoinSt_ext hJ hlt).cell (show w3.cell? ⟨g6, 6, none⟩ = some (.slice A1 n c1) from HB3d.out.cell 6)
      go_simp
      exact hk
    | 2, ho =>
      simp only [List.getElem?_toArray, List.getElem?_cons_zero, List.getElem?_cons_succ, Option.some.injEq] at ho
      subst ho
      refine want_none rfl ?_
      have e0 : a.eval (.tmp 3) = .pointer (some ⟨w.heap.size + 1, 0, none⟩) := (hF.old 3 rfl).trans rfl
      have hlt := hlim 0 3 _ rfl rfl rfl
      exact wp_loadBk 27 (.tmp 3) rfl _ 27 _ _ e0 (HB3c.out.ext (rjoinSt_ext hJ (by omega))) Tryd.underlying27 rfl (by exact size_event) hk
    | 3, ho => simp at hc
    | 4, ho => simp at hc
    | 5, ho => simp at hc
    | 6, ho =>
      simp only [List.getElem?_toArray, List.getElem?_cons_zero, List.getElem?_cons_succ, Option.some.injEq] at ho
      subst ho
      refine want_none rfl ?_
      have e0 : a.eval (.tmp 6) = .pointer (some ⟨g6, 0, none⟩) := (hF.old 6 rfl).trans rfl
      simp [Act.eval] at e0
      go_simp
      exact hk
    | 7, ho => simp at hc
    | i + 8, ho => simp at ho
  · intro p c' o hp ho a w' us K' hl hJ hF hk
    match p, hp with
    | 0, hp =>
      obtain rfl : 3 = c' := by simpa using hp
      simp only [List.getElem?_toArray, List.getElem?_cons_zero, List.getElem?_cons_succ, Option.some.injEq] at ho
      subst ho
      refine want_none rfl ?_
      obtain rfl : us = [] := List.eq_nil_of_length_eq_zero hl
      have e0 := hF.pure 2 25 _ rfl rfl rfl rfl
      have hx4 : Ext w3 w' := hJ
      refine wp_call1 rfl (eval_of e0) Tryd.call14 (REClone_own y B m d w' (HEy3.out.ext hx4)) ?_
      rintro en w4 ⟨A4, c4, rfl, hnc4, ⟨hs2, ho2, hl2, hg2, hr2, hf2⟩, hx5⟩
      exact ⟨_, rfl, hk _ _ ⟨A4, c4, hs2, rfl, hx4.trans hx5, own_hds hl2 ho2, hl2, hg2, hr2, fun h hm => (hf2 h hm).le (Nat.le_trans HX3.out.size hx4.size)⟩⟩
    | 1, hp =>
      obtain rfl : 4 = c' := by simpa using hp
      simp only [List.getElem?_toArray, List.getElem?_cons_zero, List.getElem?_cons_succ, Option.some.injEq] at ho
      subst ho
      refine want_none rfl ?_
      obtain ⟨u0, rfl⟩ := list_1 hl
      obtain ⟨A4, c4, hs2, rfl, hx4, hrest⟩ := hJ
      have e0 := hF.link 0 3 26 _ rfl rfl rfl rfl
      have HK := Lib.hid (hk (.slice A4 m c4) w' ⟨A4, c4, hs2, rfl, hx4, hrest⟩)
      clear hk hrest
      unfold Ev.cells at e0
      go_simp
      exact HK.out
    | 2, hp =>
      obtain rfl : 5 = c' := by simpa using hp
      simp only [List.getElem?_toArray, List.getElem?_cons_zero, List.getElem?_cons_succ, Option.some.injEq] at ho
      subst ho
      refine want_none rfl ?_
      obtain ⟨u0, u1, rfl⟩ := list_2 hl
      obtain ⟨A4, c4, hs2, rfl, hx4, hsl2, hl2, hg2, hr2, hf2⟩ := hJ
      have e0 := hF.pure 1 24 _ rfl rfl rfl rfl
      have e1 := hF.link 1 4 27 _ rfl rfl rfl rfl
      refine wp_appendS (f := fun h : Hd => [Hd.val h]) (.tmp 24) (.tmp 27) 25 rfl info_row Tryd.underlying25 rfl (by decide) (own_ext HO1.out hx4) (eval_of e0) (l := hs2) (eval_of e1) hsl2 (fun _ => rfl) (by intro r u hu; simp at hu; subst hu; rfl) (by omega) (by simp [maxLen]; omega) (Nat.le_trans HX3.out.size hx4.size) ?_
      intro v5 w5 hown5 hgr5
      obtain ⟨A5, c5, rfl, hc5, hro5⟩ := rows_append (own_ext HO1.out hx4) hl1 hl2 (fun i hd r a b => (HG1.out i hd r a b).ext hx4) hg2 hr1 hr2 (fun h hm => (HF1.out h hm).ext hx4) hf2 hown5 hgr5
      exact hk _ _ ⟨A5, c5, rfl, hc5, hro5, Ext.grown (HX3.out.trans hx4) hgr5 (own_lt HO1.out), Nat.le_trans hx4.size hgr5.size, fun g t cs hb hne => (hb.ext hx4).grown hgr5 (own_typed (own_ext HO1.out hx4)) hne⟩
    | 3, hp =>
      obtain rfl : 7 = c' := by simpa using hp
      simp only [List.getElem?_toArray, List.getElem?_cons_zero, List.getElem?_cons_succ, Option.some.injEq] at ho
      subst ho
      refine want_none rfl ?_
      obtain ⟨u0, u1, u2, rfl⟩ := list_3 hl
      obtain ⟨A5, c5, rfl, hc5, hro5, hx5, hsz5, hbl5⟩ := hJ
      have e0 := hF.pure 6 29 _ rfl rfl rfl rfl
      have e1 := hF.link 2 5 28 _ rfl rfl rfl rfl
      have hbd := hbl5 _ _ _ HB3d.out (by decide)
      have hcd : w'.cell? ⟨g6, 6, none⟩ = some (.slice A1 n c1) := hbd.cell 6
      have hfd : w'.frozen? ⟨g6, 6, none⟩ = false := hbd.frozen 6
      have hset := setCell_put hbd 6 (.slice A5 (n + m) c5)
      have HK := Lib.hid (hk undef _ ⟨A5, c5, hc5, hro5.put hbd (x.cells A5 (n + m) c5) (by decide) (by decide), (show Ext w w' from hx5).put hg6 _ _, by rw [putB_size]; exact hsz5, fun g t cs hb hne hg => (hbl5 g t cs hb hne).put_other (Ne.symm hg) _, hbd.put _⟩)
      clear hk hbl5 hro5 hx5 hbd
      go_simp
      exact HK.out
    | p + 4, hp => simp at hp
  intro us w6 hl hJ
  obtain ⟨u0, u1, u2, u3, rfl⟩ := list_4 hl
  obtain ⟨A5, c5, hc5, hro5, hx6, hsz6, hbl6, hbd6⟩ := hJ
  rename_i hK
  refine hK _ _ ?_
  clear hK
  generalize hL : frameL _ _ _ _ = L
  obtain rfl : L = [(23, .pointer (some ⟨g6, 6, none⟩)), (24, .slice A1 n c1), (25, .agg (y.cells B m d)), (26, u0), (27, u1), (28, u2), (29, .pointer (some ⟨g6, 6, none⟩))] := hL.symm.trans rfl
  clear hL hl
  simp only [Act.put, List.foldl_cons, List.foldl_nil, List.setIfInBounds_toArray, List.set_cons_zero, List.set_cons_succ]
  have HBa6 := Lib.hid (hbl6 _ _ _ HB3a.out (by decide) (by omega))
  have HBb6 := Lib.hid (hbl6 _ _ _ HB3b.out (by decide) (by omega))
  have HBc6 := Lib.hid (hbl6 _ _ _ HB3c.out (by decide) (by omega))
  have HBd6 := Lib.hid hbd6
  have HRO6 := Lib.hid hro5
  have HX6 := Lib.hid hx6
  clear hbl6 hbd6 hro5 hx6 HB3a HB3b HB3c HB3d HX3 HEy3 HO1 HG1 HF1 HT1 hl1 hr1
  have hcb := fun o => HBb6.out.cell o
  have hcc := fun o => HBc6.out.cell o
  unfold Ev.cells at hcb hcc
  have hcd : ∀ o, w6.cell? ⟨g6, o, none⟩ = (#[.int .i64 x.id, .int .i64 x.inn, .int .i64 x.out, .string x.region, .int .u8 x.kind, .string x.speaker, .slice A5 (n + m) c5] : Array Value)[o]? := fun o => HBd6.out.cell o
  have hfd := fun o => HBd6.out.frozen o
  have heq : (w6.setCell ⟨g6, 1, none⟩ (.int .i64 (min x.inn y.inn))).setCell ⟨g6, 2, none⟩ (.int .i64 (max x.out y.out)) = putB w6 g6 27 ((x.joined y).cells A5 (n + m) c5) := by
    rw [setCell_put HBd6.out, setCell_put (HBd6.out.put _), putB_putB]
    rfl
  have HB7 := Lib.hid (HBd6.out.put ((x.joined y).cells A5 (n + m) c5))
  have HA7 := Lib.hid (HBa6.out.put_other (g' := g6) (t' := 27) (by omega) ((x.joined y).cells A5 (n + m) c5))
  have HX7 := Lib.hid ((show Ext w w6 from HX6.out).put hg6 27 ((x.joined y).cells A5 (n + m) c5))
  have HRO7 := Lib.hid (HRO6.out.put HBd6.out ((x.joined y).cells A5 (n + m) c5) (by decide) (by decide))
  have heq2 : (w6.setCell ⟨g6, 2, none⟩ (.int .i64 (max x.out y.out))).setCell ⟨g6, 1, none⟩ (.int .i64 (min x.inn y.inn)) = putB w6 g6 27 ((x.joined y).cells A5 (n + m) c5) := by
    rw [setCell_put HBd6.out, setCell_put (HBd6.out.put _), putB_putB]
    rfl
  go_wp2_with fail
  refine wp_region_links [some 30, some 31, some 32, some 33, some 34, some 35, some 36, some 37, some 38, some 39, some 40, some 41, some 42, some 43, some 44, some 45, none, some 46, some 47, none] [[], [0], [1], [], [3], [4], [2, 5], [], [7], [8], [], [10], [11], [9, 12], [0, 1, 2, 3, 4, 5, 6], [14, 0, 1, 2, 3, 4, 5, 6], [15, 6, 0, 1, 2, 3, 4, 5, 6], [0, 1, 2, 3, 4, 5, 6, 7, 8, 9, 10, 11, 12, 13, 14, 15, 16], [17, 0, 1, 2, 3, 4, 5, 6, 7, 8, 9, 10, 11, 12, 13, 14, 15, 16], [18, 13, 16, 0, 1, 2, 3, 4, 5, 6, 7, 8, 9, 10, 11, 12, 13, 14, 15, 16]] [16, 19] [.pointer (some ⟨w.heap.size, 1, none⟩), .pointer (some ⟨w.heap.size, 1, none⟩), .int .i64 x.inn, .pointer (some ⟨w.heap.size + 1, 1, none⟩), .pointer (some ⟨w.heap.size + 1, 1, none⟩), .int .i64 y.inn, .int .i64 (min x.inn y.inn), .pointer (some ⟨w.heap.size, 1, none⟩), .pointer (some ⟨w.heap.size, 2, none⟩), .int .i64 x.out, .pointer (some ⟨w.heap.size + 1, 1, none⟩), .pointer (some ⟨w.heap.size + 1, 2, none⟩), .int .i64 y.out, .int .i64 (max x.out y.out), .pointer (some ⟨g6, 1, none⟩), .pointer (some ⟨g6, 1, none⟩), undef, .pointer (some ⟨g6, 1, none⟩), .pointer (some ⟨g6, 2, none⟩), undef] (RJ7 x y A5 (n + m) c5 g6 w6) (by kernel_rfl) (by kernel_rfl) (by kernel_rfl) (by kernel_rfl) (by kernel_rfl) (by kernel_rfl) (by kernel_rfl) (by decide) ?_ ?_ ?_ ?_
  · exact rfl
  · clear heq heq2 hcb hcc hcd hfd
    intro i o ho hc a w' us K' hJ hF hlim hk
    match i, ho with
    | 0, ho =>
      simp only [List.getElem?_toArray, List.getElem?_cons_zero, List.getElem?_cons_succ, Option.some.injEq] at ho
      subst ho
      have e2 := hF.old 2 (.pointer (some ⟨w.heap.size, 0, none⟩)) rfl rfl
      simp only [Act.eval] at e2
      clear hF hlim hJ
      go_simp
      exact hk
    | 1, ho =>
      simp only [List.getElem?_toArray, List.getElem?_cons_zero, List.getElem?_cons_succ, Option.some.injEq] at ho
      subst ho
      have e30 := hF.pure 0 30 (.pointer (some ⟨w.heap.size, 1, none⟩)) rfl rfl rfl rfl
      simp only [Act.eval] at e30
      clear hF hlim hJ
      go_simp
      exact hk
    | 2, ho =>
      simp only [List.getElem?_toArray, List.getElem?_cons_zero, List.getElem?_cons_succ, Option.some.injEq] at ho
      subst ho
      have e31 := hF.pure 1 31 (.pointer (some ⟨w.heap.size, 1, none⟩)) rfl rfl rfl rfl
      have hcl : w'.cell? ⟨w.heap.size, 1, none⟩ = some (.int .i64 x.inn) := (rj7_blk hJ (by omega) HBb6.out).cell 1
      simp only [Act.eval] at e31
      clear hF hlim hJ
      go_simp
      exact hk
    | 3, ho =>
      simp only [List.getElem?_toArray, List.getElem?_cons_zero, List.getElem?_cons_succ, Option.some.injEq] at ho
      subst ho
      have e3 := hF.old 3 (.pointer (some ⟨w.heap.size + 1, 0, none⟩)) rfl rfl
      simp only [Act.eval] at e3
      clear hF hlim hJ
      go_simp
      exact hk
    | 4, ho =>
      simp only [List.getElem?_toArray, List.getElem?_cons_zero, List.getElem?_cons_succ, Option.some.injEq] at ho
      subst ho
      have e33 := hF.pure 3 33 (.pointer (some ⟨w.heap.size + 1, 1, none⟩)) rfl rfl rfl rfl
      simp only [Act.eval] at e33
      clear hF hlim hJ
      go_simp
      exact hk
    | 5, ho =>
      simp only [List.getElem?_toArray, List.getElem?_cons_zero, List.getElem?_cons_succ, Option.some.injEq] at ho
      subst ho
      have e34 := hF.pure 4 34 (.pointer (some ⟨w.heap.size + 1, 1, none⟩)) rfl rfl rfl rfl
      have hcl : w'.cell? ⟨w.heap.size + 1, 1, none⟩ = some (.int .i64 y.inn) := (rj7_blk hJ (by omega) HBc6.out).cell 1
      simp only [Act.eval] at e34
      clear hF hlim hJ
      go_simp
      exact hk
    | 6, ho =>
      simp only [List.getElem?_toArray, List.getElem?_cons_zero, List.getElem?_cons_succ, Option.some.injEq] at ho
      subst ho
      have e32 := hF.pure 2 32 (.int .i64 x.inn) rfl rfl rfl rfl
      have e35 := hF.pure 5 35 (.int .i64 y.inn) rfl rfl rfl rfl
      simp only [Act.eval] at e32 e35
      clear hF hlim hJ
      go_simp
      exact hk
    | 7, ho =>
      simp only [List.getElem?_toArray, List.getElem?_cons_zero, List.getElem?_cons_succ, Option.some.injEq] at ho
      subst ho
      have e2 := hF.old 2 (.pointer (some ⟨w.heap.size, 0, none⟩)) rfl rfl
      simp only [Act.eval] at e2
      clear hF hlim hJ
      go_simp
      exact hk
    | 8, ho =>
      simp only [List.getElem?_toArray, List.getElem?_cons_zero, List.getElem?_cons_succ, Option.some.injEq] at ho
      subst ho
      have e37 := hF.pure 7 37 (.pointer (some ⟨w.heap.size, 1, none⟩)) rfl rfl rfl rfl
      simp only [Act.eval] at e37
      clear hF hlim hJ
      go_simp
      exact hk
    | 9, ho =>
      simp only [List.getElem?_toArray, List.getElem?_cons_zero, List.getElem?_cons_succ, Option.some.injEq] at ho
      subst ho
      have e38 := hF.pure 8 38 (.pointer (some ⟨w.heap.size, 2, none⟩)) rfl rfl rfl rfl
      have hcl : w'.cell? ⟨w.heap.size, 2, none⟩ = some (.int .i64 x.out) := (rj7_blk hJ (by omega) HBb6.out).cell 2
      simp only [Act.eval] at e38
      clear hF hlim hJ
      go_simp
      exact hk
    | 10, ho =>
      simp only [List.getElem?_toArray, List.getElem?_cons_zero, List.getElem?_cons_succ, Option.some.injEq] at ho
      subst ho
      have e3 := hF.old 3 (.pointer (some ⟨w.heap.size + 1, 0, none⟩)) rfl rfl
      simp only [Act.eval] at e3
      clear hF hlim hJ
      go_simp
      exact hk
    | 11, ho =>
      simp only [List.getElem?_toArray, List.getElem?_cons_zero, List.getElem?_cons_succ, Option.some.injEq] at ho
      subst ho
      have e40 := hF.pure 10 40 (.pointer (some ⟨w.heap.size + 1, 1, none⟩)) rfl rfl rfl rfl
      simp only [Act.eval] at e40
      clear hF hlim hJ
      go_simp
      exact hk
    | 12, ho =>
      simp only [List.getElem?_toArray, List.getElem?_cons_zero, List.getElem?_cons_succ, Option.some.injEq] at ho
      subst ho
      have e41 := hF.pure 11 41 (.pointer (some ⟨w.heap.size + 1, 2, none⟩)) rfl rfl rfl rfl
      have hcl : w'.cell? ⟨w.heap.size + 1, 2, none⟩ = some (.int .i64 y.out) := (rj7_blk hJ (by omega) HBc6.out).cell 2
      simp only [Act.eval] at e41
      clear hF hlim hJ
      go_simp
      exact hk
    | 13, ho =>
      simp only [List.getElem?_toArray, List.getElem?_cons_zero, List.getElem?_cons_succ, Option.some.injEq] at ho
      subst ho
      have e39 := hF.pure 9 39 (.int .i64 x.out) rfl rfl rfl rfl
      have e42 := hF.pure 12 42 (.int .i64 y.out) rfl rfl rfl rfl
      simp only [Act.eval] at e42 e39
      clear hF hlim hJ
      go_simp
      exact hk
    | 14, ho =>
      simp only [List.getElem?_toArray, List.getElem?_cons_zero, List.getElem?_cons_succ, Option.some.injEq] at ho
      subst ho
      have e6 := hF.old 6 (.pointer (some ⟨g6, 0, none⟩)) rfl rfl
      simp only [Act.eval] at e6
      clear hF hlim hJ
      go_simp
      exact hk
    | 15, ho =>
      simp only [List.getElem?_toArray, List.getElem?_cons_zero, List.getElem?_cons_succ, Option.some.injEq] at ho
      subst ho
      have e44 := hF.pure 14 44 (.pointer (some ⟨g6, 1, none⟩)) rfl rfl rfl rfl
      simp only [Act.eval] at e44
      clear hF hlim hJ
      go_simp
      exact hk
    | 16, ho => simp at hc
    | 17, ho =>
      simp only [List.getElem?_toArray, List.getElem?_cons_zero, List.getElem?_cons_succ, Option.some.injEq] at ho
      subst ho
      have e6 := hF.old 6 (.pointer (some ⟨g6, 0, none⟩)) rfl rfl
      simp only [Act.eval] at e6
      clear hF hlim hJ
      go_simp
      exact hk
    | 18, ho =>
      simp only [List.getElem?_toArray, List.getElem?_cons_zero, List.getElem?_cons_succ, Option.some.injEq] at ho
      subst ho
      have e46 := hF.pure 17 46 (.pointer (some ⟨g6, 1, none⟩)) rfl rfl rfl rfl
      simp only [Act.eval] at e46
      clear hF hlim hJ
      go_simp
      exact hk
    | 19, ho => simp at hc
    | i + 20, ho => simp at ho
  · clear heq heq2 hcb hcc hcd hfd
    intro p c' o hp ho a w' us K' hl hJ hF hk
    match p, hp with
    | 0, hp =>
      obtain rfl : 16 = c' := by simpa using hp
      simp only [List.getElem?_toArray, List.getElem?_cons_zero, List.getElem?_cons_succ, Option.some.injEq] at ho
      subst ho
      obtain rfl : us = [] := List.eq_nil_of_length_eq_zero hl
      have e45 := hF.pure 15 45 (.pointer (some ⟨g6, 1, none⟩)) rfl rfl rfl rfl
      have e36 := hF.pure 6 36 (.int .i64 (min x.inn y.inn)) rfl rfl rfl rfl
      obtain rfl : w' = w6.drew := hJ
      have hb : Blk w6.drew g6 27 (x.cells A5 (n + m) c5) := HBd6.out
      have hcl : w6.drew.cell? ⟨g6, 1, none⟩ = some (.int .i64 x.inn) := hb.cell 1
      have hfl : w6.drew.frozen? ⟨g6, 1, none⟩ = false := hb.frozen 1
      have hset := setCell_put hb 1 (.int .i64 (min x.inn y.inn))
      have HK := Lib.hid (hk undef _ (show _ = (putB w6.drew g6 27 ((x.cells A5 (n + m) c5).setIfInBounds 1 (.int .i64 (min x.inn y.inn)))) from rfl))
      simp only [Act.eval] at e45 e36
      clear hk hF hb
      generalize w6.drew = w6d at *
      go_simp
      exact HK.out
    | 1, hp =>
      obtain rfl : 19 = c' := by simpa using hp
      simp only [List.getElem?_toArray, List.getElem?_cons_zero, List.getElem?_cons_succ, Option.some.injEq] at ho
      subst ho
      obtain ⟨u0, rfl⟩ := list_1 hl
      have e47 := hF.pure 18 47 (.pointer (some ⟨g6, 2, none⟩)) rfl rfl rfl rfl
      have e43 := hF.pure 13 43 (.int .i64 (max x.out y.out)) rfl rfl rfl rfl
      obtain rfl : w' = (putB w6.drew g6 27 ((x.cells A5 (n + m) c5).setIfInBounds 1 (.int .i64 (min x.inn y.inn)))) := hJ
      have hb : Blk (putB w6.drew g6 27 ((x.cells A5 (n + m) c5).setIfInBounds 1 (.int .i64 (min x.inn y.inn)))) g6 27 ((x.cells A5 (n + m) c5).setIfInBounds 1 (.int .i64 (min x.inn y.inn))) := (show Blk w6.drew g6 27 (x.cells A5 (n + m) c5) from HBd6.out).put _
      have hset2 : (putB w6.drew g6 27 ((x.cells A5 (n + m) c5).setIfInBounds 1 (.int .i64 (min x.inn y.inn)))).setCell ⟨g6, 2, none⟩ (.int .i64 (max x.out y.out)) = putB w6.drew g6 27 ((x.joined y).cells A5 (n + m) c5) := by
        rw [setCell_put hb 2, putB_putB]
        rfl
      have HK := Lib.hid (hk undef _ (show _ = putB w6.drew g6 27 ((x.joined y).cells A5 (n + m) c5) from rfl))
      have hcl : (putB w6.drew g6 27 ((x.cells A5 (n + m) c5).setIfInBounds 1 (.int .i64 (min x.inn y.inn)))).cell? ⟨g6, 2, none⟩ = some (.int .i64 x.out) := hb.cell 2
      have hfl := hb.frozen 2
      simp only [Act.eval] at e47 e43
      clear hk hF hb
      generalize (putB w6.drew g6 27 ((x.cells A5 (n + m) c5).setIfInBounds 1 (.int .i64 (min x.inn y.inn)))) = w6d at *
      go_simp
      exact HK.out
    | p + 2, hp => simp at hp
  intro us w7 hl hJ
  obtain ⟨u3, u4, rfl⟩ := list_2 hl
  obtain rfl : w7 = putB w6.drew g6 27 ((x.joined y).cells A5 (n + m) c5) := hJ
  rename_i hK
  refine hK _ _ ?_
  clear hK heq heq2 hcb hcc hcd hfd
  generalize hL : frameL _ _ _ _ = L
  obtain rfl : L = [(30, .pointer (some ⟨w.heap.size, 1, none⟩)), (31, .pointer (some ⟨w.heap.size, 1, none⟩)), (32, .int .i64 x.inn), (33, .pointer (some ⟨w.heap.size + 1, 1, none⟩)), (34, .pointer (some ⟨w.heap.size + 1, 1, none⟩)), (35, .int .i64 y.inn), (36, .int .i64 (min x.inn y.inn)), (37, .pointer (some ⟨w.heap.size, 1, none⟩)), (38, .pointer (some ⟨w.heap.size, 2, none⟩)), (39, .int .i64 x.out), (40, .pointer (some ⟨w.heap.size + 1, 1, none⟩)), (41, .pointer (some ⟨w.heap.size + 1, 2, none⟩)), (42, .int .i64 y.out), (43, .int .i64 (max x.out y.out)), (44, .pointer (some ⟨g6, 1, none⟩)), (45, .pointer (some ⟨g6, 1, none⟩)), (46, .pointer (some ⟨g6, 1, none⟩)), (47, .pointer (some ⟨g6, 2, none⟩))] := hL.symm.trans (by kernel_rfl)
  clear hL hl
  simp only [Act.put, List.foldl_cons, List.foldl_nil, List.setIfInBounds_toArray, List.set_cons_zero, List.set_cons_succ]
  have HB8 := Lib.hid (show Blk (putB w6.drew g6 27 ((x.joined y).cells A5 (n + m) c5)) g6 27 ((x.joined y).cells A5 (n + m) c5) from HB7.out)
  have HA8 := Lib.hid (show Blk (putB w6.drew g6 27 ((x.joined y).cells A5 (n + m) c5)) (w.heap.size + 1 + 1) 27 _ from HA7.out)
  have HX8 := Lib.hid ((show Ext w w6.drew from (show Ext w w6 from HX6.out).drew).put hg6 27 ((x.joined y).cells A5 (n + m) c5))
  have HRO8 := Lib.hid ((HRO6.out.ext (Ext.refl w6).drew).put (show Blk w6.drew g6 27 (x.cells A5 (n + m) c5) from HBd6.out) ((x.joined y).cells A5 (n + m) c5) (by decide) (by decide))
  clear HB7 HA7 HX7 HRO7 HBa6 HBb6 HBc6 HBd6 HX6 HRO6
  generalize putB w6.drew g6 27 ((x.joined y).cells A5 (n + m) c5) = w7 at *
  go_wp2_with (first | (refine wpList_loadB rfl 27 (.tmp 6) rfl g6 27 _ _ (by exact rfl) (by exact HB8.out) Tryd.underlying27 rfl (by exact size_event) ?_) | (refine wpList_storeB rfl 27 (.tmp 4) (.tmp 48) rfl (w.heap.size + 1 + 1) 27 _ _ (by exact rfl) (by exact rfl) (by exact HA8.out) (by exact rfl) (by exact size_event) (by simp [Ev.cells, Value.oneCell']) ?_))
  refine bodyPost_ret (v := .tuple #[.agg ((x.joined y).cells A5 (n + m) c5), .int .i64 0]) ?_ rfl ⟨A5, c5, rfl, hc5, ?_, ?_⟩
  · exact results_B_tmp (P := Tryd.prog) Tryd.results17 (g := w.heap.size + 1 + 1) rfl (by exact HA8.out.put _) Tryd.underlying27 rfl size_event
  · exact (HRO8.out.put HA8.out _ (by decide) (by decide)).fresh
  · exact HX8.out.put (by omega) _ _

theorem RJoin_any (x y : Ev) (A : Option Addr) (n c : Nat) (B : Option Addr) (m d : Nat) (w : World) (hex : EvAt w x A n c) (hey : EvAt w y B m d) :
    Calls Tryd.prog 17 #[.agg (x.cells A n c), .agg (y.cells B m d)] w (JoinPost x y w) := by
  cases hl : lessB x y with
  | false =>
    have e0 : x.joinErr y = 8 := by unfold Ev.joinErr; rw [hl]; rfl
    exact (rjoin_late x y A n c B m d w hl).mono fun _ _ ⟨h1, h2⟩ => joinErr_post (by rw [e0]; decide) (by rw [e0]; exact h1) h2
  | true =>
    by_cases h4 : n + m ≤ 4
    · exact (rjoin_good x y A n c B m d w hex hey hl h4).mono fun _ _ h => joinPost_good hl hex.len hey.len h4 h
    · have e0 : x.joinErr y = 9 := by unfold Ev.joinErr; rw [hl, hex.len, hey.len, if_neg (by decide), if_pos (by omega)]
      exact (rjoin_long x y A n c B m d w hl hex.2.2 hey.2.2 (by omega)).mono fun _ _ ⟨h1, h2⟩ => joinErr_post (by rw [e0]; decide) (by rw [e0]; exact h1) h2
end Go.Proofs.YtcgflkmkdpgchaaDoor
