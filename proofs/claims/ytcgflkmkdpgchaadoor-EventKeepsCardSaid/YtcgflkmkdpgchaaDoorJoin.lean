/- The walk of event.Join. -/
import Derived.Test.YtcgflkmkdpgchaaDoorJoinA
import Derived.Test.YtcgflkmkdpgchaaDoorChain
import Derived.Test.YtcgflkmkdpgchaaDoorOpen
namespace Go.Proofs.YtcgflkmkdpgchaaDoor
set_option linter.unusedVariables false
set_option linter.unusedSimpArgs false
open Go.RowKit

/-- what the region 'out.Rows = append(out.Rows, Clone(b.Rows)...)' has come to behind each of its links -/
def JoinSt (x y : Ev) (A1 : Option Addr) (n c1 m g6 : Nat) (w w3 : World) : List Value → World → Prop
  | [], w' => Ext w3 w'
  | [v], w' => ∃ A4 c4 hs2, v = .slice A4 m c4 ∧ Ext w3 w' ∧ Sl w' 1 (Cells fun h => [Hd.val h]) A4 m hs2 ∧ hs2.length = m ∧ Goods w' hs2 y.rows ∧ y.rows.length = m ∧ ∀ h ∈ hs2, Fresh w' 48 w.heap.size h.1
  | [_, v], w' => ∃ A5 c5, v = .slice A5 (n + m) c5 ∧ n + m ≤ c5 ∧ RowsOwn w' w.heap.size A5 (n + m) c5 (x.rows ++ y.rows) ∧ Below w.heap.size w w' ∧ w3.heap.size ≤ w'.heap.size ∧ (∀ g t cs, Blk w3 g t cs → t ≠ 43 → Blk w' g t cs)
  | [_, _, _], w' => ∃ A5 c5, n + m ≤ c5 ∧ RowsOwn w' w.heap.size A5 (n + m) c5 (x.rows ++ y.rows) ∧ Ext w w' ∧ w3.heap.size ≤ w'.heap.size ∧ (∀ g t cs, Blk w3 g t cs → t ≠ 43 → g ≠ g6 → Blk w' g t cs) ∧ Blk w' g6 27 (x.cells A5 (n + m) c5)
  | _, _ => False

theorem joinSt_ext {x y : Ev} {A1 : Option Addr} {n c1 m g6 : Nat} {w w3 : World} {us : List Value} {w' : World} (h : JoinSt x y A1 n c1 m g6 w w3 us w') (hl : us.length ≤ 1) : Ext w3 w' := by
  match us, hl with
  | [], _ => exact h
  | [_], _ => obtain ⟨_, _, _, _, h1, _⟩ := h; exact h1

set_option maxRecDepth 100000 in
set_option maxHeartbeats 4000000 in
theorem join_late (x y : Ev) (A : Option Addr) (n c : Nat) (B : Option Addr) (m d : Nat) (w : World) (hl : lessB x y = false) :
    Calls Tryd.prog 15 #[.agg (x.cells A n c), .agg (y.cells B m d)] w fun en w' => en = .returned (.tuple #[.agg evZero, .int .i64 8]) ∧ Ext w w' := by
  have HX := Lib.hid ((((Ext.refl w).alloc (.cells (x.cells A n c) 27)).alloc (.cells (y.cells B m d) 27)).alloc (.cells evZero 27))
  have HB0 := Lib.hid (((Blk.new w 27 (x.cells A n c)).alloc (.cells (y.cells B m d) 27)).alloc (.cells evZero 27))
  have HB1 := Lib.hid ((Blk.new' (w := w.alloc (.cells (x.cells A n c) 27)) (g := w.heap.size + 1) (t := 27) (cs := y.cells B m d) (by simp)).alloc (.cells evZero 27))
  have HB2 := Lib.hid (Blk.new' (w := (w.alloc (.cells (x.cells A n c) 27)).alloc (.cells (y.cells B m d) 27)) (g := w.heap.size + 1 + 1) (t := 27) (cs := evZero) (by simp))
  have HL := Lib.hid (fun w => by have := Less_any x y A n c B m d w; rwa [hl] at this : ∀ w, Calls Tryd.prog 12 #[.agg (x.cells A n c), .agg (y.cells B m d)] w fun en w' => en = .returned (.bool false) ∧ Ext w w')
  clear hl
  unfold evZero at HB0 HB1 HB2 HX
  go_enter Tryd.func15, Tryd.ntmps15
  go_wp2_with (first | (refine wpList_loadB rfl 27 (.tmp 2) rfl w.heap.size 27 _ _ (by exact rfl) (by exact HB0.out) Tryd.underlying27 rfl (by exact size_event) ?_) | (refine wpList_loadB rfl 27 (.tmp 3) rfl (w.heap.size + 1) 27 _ _ (by exact rfl) (by exact HB1.out) Tryd.underlying27 rfl (by exact size_event) ?_))
  refine (HL.out _).mono ?_
  rintro en w1 ⟨rfl, hx1⟩
  have HX1 := Lib.hid (HX.out.trans hx1)
  have HB3 := Lib.hid (HB2.out.ext hx1)
  clear hx1
  go_wp2_with (refine wpList_storeB rfl 27 (.tmp 4) (.tmp 12) rfl (w.heap.size + 1 + 1) 27 _ _ (by exact rfl) (by exact rfl) (by exact HB3.out) (by exact rfl) (by exact size_event) (by simp [Value.oneCell']) ?_)
  refine bodyPost_ret (v := .tuple #[.agg evZero, .int .i64 8]) ?_ rfl ⟨rfl, ?_⟩
  · exact results_B_tmp (P := Tryd.prog) Tryd.results15 (g := w.heap.size + 1 + 1) rfl (by exact HB3.out.put _) Tryd.underlying27 rfl size_event
  · exact HX1.out.put (by omega) _ _

set_option maxRecDepth 100000 in
set_option maxHeartbeats 4000000 in
theorem join_long (x y : Ev) (A : Option Addr) (n c : Nat) (B : Option Addr) (m d : Nat) (w : World) (hl : lessB x y = true) (hn : n * 24 ≤ 140737488355328) (hm : m * 24 ≤ 140737488355328) (h4 : 4 < n + m) :
    Calls Tryd.prog 15 #[.agg (x.cells A n c), .agg (y.cells B m d)] w fun en w' => en = .returned (.tuple #[.agg evZero, .int .i64 9]) ∧ Ext w w' := by
  have HX := Lib.hid ((((Ext.refl w).alloc (.cells (x.cells A n c) 27)).alloc (.cells (y.cells B m d) 27)).alloc (.cells evZero 27))
  have HB0 := Lib.hid (((Blk.new w 27 (x.cells A n c)).alloc (.cells (y.cells B m d) 27)).alloc (.cells evZero 27))
  have HB1 := Lib.hid ((Blk.new' (w := w.alloc (.cells (x.cells A n c) 27)) (g := w.heap.size + 1) (t := 27) (cs := y.cells B m d) (by simp)).alloc (.cells evZero 27))
  have HB2 := Lib.hid (Blk.new' (w := (w.alloc (.cells (x.cells A n c) 27)).alloc (.cells (y.cells B m d) 27)) (g := w.heap.size + 1 + 1) (t := 27) (cs := evZero) (by simp))
  have HL := Lib.hid (fun w => by have := Less_any x y A n c B m d w; rwa [hl] at this : ∀ w, Calls Tryd.prog 12 #[.agg (x.cells A n c), .agg (y.cells B m d)] w fun en w' => en = .returned (.bool true) ∧ Ext w w')
  clear hl
  unfold evZero at HB0 HB1 HB2 HX
  go_enter Tryd.func15, Tryd.ntmps15
  go_wp2_with (first | (refine wpList_loadB rfl 27 (.tmp 2) rfl w.heap.size 27 _ _ (by exact rfl) (by exact HB0.out) Tryd.underlying27 rfl (by exact size_event) ?_) | (refine wpList_loadB rfl 27 (.tmp 3) rfl (w.heap.size + 1) 27 _ _ (by exact rfl) (by exact HB1.out) Tryd.underlying27 rfl (by exact size_event) ?_))
  refine (HL.out _).mono ?_
  rintro en w1 ⟨rfl, hx1⟩
  have HX1 := Lib.hid (HX.out.trans hx1)
  have HB3 := Lib.hid (HB2.out.ext hx1)
  have HB4 := Lib.hid (HB0.out.ext hx1)
  have HB5 := Lib.hid (HB1.out.ext hx1)
  clear hx1 HB0 HB1 HB2 HX
  have hc0 := fun o => HB4.out.cell o
  have hc1 := fun o => HB5.out.cell o
  unfold Ev.cells at hc0 hc1
  have h4' : (4 : Int) < (n : Int) + (m : Int) := by omega
  go_wp2_with (refine wpList_storeB rfl 27 (.tmp 4) (.tmp 22) rfl (w.heap.size + 1 + 1) 27 _ _ (by exact rfl) (by exact rfl) (by exact HB3.out) (by exact rfl) (by exact size_event) (by simp [Value.oneCell']) ?_)
  refine bodyPost_ret (v := .tuple #[.agg evZero, .int .i64 9]) ?_ rfl ⟨rfl, ?_⟩
  · exact results_B_tmp (P := Tryd.prog) Tryd.results15 (g := w.heap.size + 1 + 1) rfl (by exact HB3.out.put _) Tryd.underlying27 rfl size_event
  · exact HX1.out.put (by omega) _ _

set_option maxRecDepth 100000 in
set_option maxHeartbeats 4000000 in
theorem join_good (x y : Ev) (A : Option Addr) (n c : Nat) (B : Option Addr) (m d : Nat) (w : World) (hex : EvAt w x A n c) (hey : EvAt w y B m d) (hl : lessB x y = true) (h4 : n + m ≤ 4) :
    Calls Tryd.prog 15 #[.agg (x.cells A n c), .agg (y.cells B m d)] w fun en w' => ∃ A' c', en = .returned (.tuple #[.agg ((x.joined y).cells A' (n + m) c'), .int .i64 0]) ∧ n + m ≤ c' ∧ RowsFresh w' w.heap.size A' (n + m) (x.rows ++ y.rows) ∧ Ext w w' := by
  have HEx := Lib.hid hex
  have HEy := Lib.hid hey
  clear hex hey
  have HX := Lib.hid ((((Ext.refl w).alloc (.cells (x.cells A n c) 27)).alloc (.cells (y.cells B m d) 27)).alloc (.cells evZero 27))
  have HB0 := Lib.hid (((Blk.new w 27 (x.cells A n c)).alloc (.cells (y.cells B m d) 27)).alloc (.cells evZero 27))
  have HB1 := Lib.hid ((Blk.new' (w := w.alloc (.cells (x.cells A n c) 27)) (g := w.heap.size + 1) (t := 27) (cs := y.cells B m d) (by simp)).alloc (.cells evZero 27))
  have HB2 := Lib.hid (Blk.new' (w := (w.alloc (.cells (x.cells A n c) 27)).alloc (.cells (y.cells B m d) 27)) (g := w.heap.size + 1 + 1) (t := 27) (cs := evZero) (by simp))
  have HL := Lib.hid (fun w => by have := Less_any x y A n c B m d w; rwa [hl] at this : ∀ w, Calls Tryd.prog 12 #[.agg (x.cells A n c), .agg (y.cells B m d)] w fun en w' => en = .returned (.bool true) ∧ Ext w w')
  clear hl
  unfold evZero at HB0 HB1 HB2 HX
  go_enter Tryd.func15, Tryd.ntmps15
  go_wp2_with (first | (refine wpList_loadB rfl 27 (.tmp 2) rfl w.heap.size 27 _ _ (by exact rfl) (by exact HB0.out) Tryd.underlying27 rfl (by exact size_event) ?_) | (refine wpList_loadB rfl 27 (.tmp 3) rfl (w.heap.size + 1) 27 _ _ (by exact rfl) (by exact HB1.out) Tryd.underlying27 rfl (by exact size_event) ?_))
  refine (HL.out _).mono ?_
  rintro en w1 ⟨rfl, hx1⟩
  have HX1 := Lib.hid (HX.out.trans hx1)
  have HB3 := Lib.hid (HB2.out.ext hx1)
  have HB4 := Lib.hid (HB0.out.ext hx1)
  have HB5 := Lib.hid (HB1.out.ext hx1)
  clear hx1 HB0 HB1 HB2 HX
  have hc0 := fun o => HB4.out.cell o
  have hc1 := fun o => HB5.out.cell o
  unfold Ev.cells at hc0 hc1
  have h4' : (n : Int) + (m : Int) ≤ 4 := by omega
  have HEx1 := Lib.hid (HEx.out.ext HX1.out)
  have HEy1 := Lib.hid (HEy.out.ext HX1.out)
  go_wp2_with (refine wpList_loadB rfl 27 (.tmp 2) rfl w.heap.size 27 _ _ (by exact rfl) (by exact HB4.out) Tryd.underlying27 rfl (by exact size_event) ?_)
  refine (EClone_own x A n c w1 HEx1.out).mono ?_
  rintro en w2 ⟨A1, c1, rfl, hnc1, hrf, hx2⟩
  have HX2 := Lib.hid (HX1.out.trans hx2)
  have HRO := Lib.hid hrf
  have HZ := Lib.hid (Blk.new w2 27 evZero)
  have HXZ := Lib.hid ((Ext.refl w2).alloc (.cells evZero 27))
  have HB6 := Lib.hid (HB3.out.ext hx2)
  have HB7 := Lib.hid (HB4.out.ext hx2)
  have HB8 := Lib.hid (HB5.out.ext hx2)
  have HEy2 := Lib.hid (HEy1.out.ext hx2)
  have hs2 := hx2.size
  clear hx2 hrf hc0 hc1 HB3 HB4 HB5 HEx1 HEy1
  unfold evZero at HZ HXZ
  go_upto_region 6 with (refine wpList_storeB rfl 27 (.tmp 6) (.tmp 24) rfl w2.heap.size 27 _ _ (by exact rfl) (by exact rfl) (by exact HZ.out) (by exact rfl) (by exact size_event) (by simp [Ev.cells, Value.oneCell']) ?_)
  have hb3 := HZ.out.put (x.cells A1 n c1)
  have hro3 := ((HRO.out.ext HXZ.out).put HZ.out (x.cells A1 n c1) (by decide) (by decide)).le HX1.out.size
  have hx3 := (HX2.out.trans HXZ.out).put HX2.out.size 27 (x.cells A1 n c1)
  have hxz3 : Ext w2 (putB (w2.alloc (.cells evZero 27)) w2.heap.size 27 (x.cells A1 n c1)) := (HXZ.out).put (Nat.le_refl _) 27 (x.cells A1 n c1)
  unfold evZero at hxz3
  generalize putB (w2.alloc _) w2.heap.size 27 (x.cells A1 n c1) = w3 at hb3 hro3 hx3 hxz3 ⊢
  have HB3a := Lib.hid (HB6.out.ext hxz3)
  have HB3b := Lib.hid (HB7.out.ext hxz3)
  have HB3c := Lib.hid (HB8.out.ext hxz3)
  have HB3d := Lib.hid hb3
  have HX3 := Lib.hid hx3
  have HEy3 := Lib.hid (HEy2.out.ext hxz3)
  have hg6 : w.heap.size ≤ w2.heap.size := HX2.out.size
  have hg6' : w2.heap.size < w3.heap.size := hb3.lt
  have hg6l : w.heap.size + 1 + 1 < w2.heap.size := HB6.out.lt
  generalize w2.heap.size = g6 at *
  clear HZ HXZ HB6 HB7 HB8 HRO HX2 HEy2 hxz3 hx3 hs2 hb3 HX1
  obtain ⟨hs1, ho1, hl1, hg1, hr1, hf1⟩ := hro3
  have HO1 := Lib.hid ho1
  have HG1 := Lib.hid hg1
  have HF1 := Lib.hid hf1
  clear ho1 hg1 hf1
  have HT1 := Lib.hid (own_typed HO1.out)
  refine wp_region_chain [4, 5, 7] [.pointer (some ⟨g6, 6, none⟩), .slice A1 n c1, .pointer (some ⟨w.heap.size + 1, 6, none⟩), .slice B m d, undef, undef, .pointer (some ⟨g6, 6, none⟩), undef] (JoinSt x y A1 n c1 m g6 w w3) (by kernel_rfl) (by kernel_rfl) (by kernel_rfl) (by kernel_rfl) (by decide) ?_ ?_ ?_ ?_
  · exact (Ext.refl w3).drew
  · intro i o ho hc a w' us K' hJ hF hlim hk
    match i, ho with
    | 0, ho =>
      simp only [List.getElem?_toArray, List.getElem?_cons_zero, List.getElem?_cons_succ, Option.some.injEq] at ho
      subst ho
      refine want_none rfl ?_
      have e0 : a.eval (.tmp 6) = .pointer (some ⟨g6, 0, none⟩) := (hF.old 6 rfl).trans rfl
      simp [Act.eval] at e0
      go_simp
      exact hk
    | 1, ho =>
      simp only [List.getElem?_toArray, List.getElem?_cons_zero, List.getElem?_cons_succ, Option.some.injEq] at ho
      subst ho
      refine want_none rfl ?_
      have e0 := hF.pure 0 25 _ rfl rfl rfl rfl
      have hlt := hlim 1 5 _ rfl rfl rfl
      have hcc : w'.cell? ⟨g6, 6, none⟩ = some (.slice A1 n c1) := (joinSt_ext hJ hlt).cell (show w3.cell? ⟨g6, 6, none⟩ = some (.slice A1 n c1) from HB3d.out.cell 6)
      go_simp
      exact hk
    | 2, ho =>
      simp only [List.getElem?_toArray, List.getElem?_cons_zero, List.getElem?_cons_succ, Option.some.injEq] at ho
      subst ho
      refine want_none rfl ?_
      have e0 : a.eval (.tmp 3) = .pointer (some ⟨w.heap.size + 1, 0, none⟩) := (hF.old 3 rfl).trans rfl
      simp [Act.eval] at e0
      go_simp
      exact hk
    | 3, ho =>
      simp only [List.getElem?_toArray, List.getElem?_cons_zero, List.getElem?_cons_succ, Option.some.injEq] at ho
      subst ho
      refine want_none rfl ?_
      have e0 := hF.pure 2 27 _ rfl rfl rfl rfl
      have hlt := hlim 0 4 _ rfl rfl rfl
      have hcc : w'.cell? ⟨w.heap.size + 1, 6, none⟩ = some (.slice B m d) := (joinSt_ext hJ (by omega)).cell (show w3.cell? ⟨w.heap.size + 1, 6, none⟩ = some (.slice B m d) from HB3c.out.cell 6)
      go_simp
      exact hk
    | 4, ho => simp at hc
    | 5, ho => simp at hc
    | 6, ho =>
      simp only [List.getElem?_toArray, List.getElem?_cons_zero, List.getElem?_cons_succ, Option.some.injEq] at ho
      subst ho
      refine want_none rfl ?_
      have e0 : a.eval (.tmp 6) = .pointer (some ⟨g6, 0, none⟩) := (hF.old 6 rfl).trans rfl
      simp [Act.eval] at e0
      go_simp
      exact hk
    | 7, ho => simp at hc
    | i + 8, ho => simp at ho
  · intro p c' o hp ho a w' us K' hl hJ hF hk
    match p, hp with
    | 0, hp =>
      obtain rfl : 4 = c' := by simpa using hp
      simp only [List.getElem?_toArray, List.getElem?_cons_zero, List.getElem?_cons_succ, Option.some.injEq] at ho
      subst ho
      refine want_none rfl ?_
      obtain rfl : us = [] := List.eq_nil_of_length_eq_zero hl
      have e0 := hF.pure 3 28 _ rfl rfl rfl rfl
      have hx4 : Ext w3 w' := hJ
      refine wp_call1 rfl (eval_of e0) Tryd.call29 (SClone_own B m d y.rows w' (HEy3.out.1.ext hx4) (by omega)) ?_
      rintro en w4 ⟨A4, c4, rfl, hnc4, ⟨hs2, ho2, hl2, hg2, hr2, hf2⟩, hx5⟩
      exact ⟨_, rfl, hk _ _ ⟨A4, c4, hs2, rfl, hx4.trans hx5, own_hds hl2 ho2, hl2, hg2, hr2, fun h hm => (hf2 h hm).le (Nat.le_trans HX3.out.size hx4.size)⟩⟩
    | 1, hp =>
      obtain rfl : 5 = c' := by simpa using hp
      simp only [List.getElem?_toArray, List.getElem?_cons_zero, List.getElem?_cons_succ, Option.some.injEq] at ho
      subst ho
      refine want_none rfl ?_
      obtain ⟨u0, rfl⟩ := list_1 hl
      obtain ⟨A4, c4, hs2, rfl, hx4, hsl2, hl2, hg2, hr2, hf2⟩ := hJ
      have e0 := hF.pure 1 26 _ rfl rfl rfl rfl
      have e1 := hF.link 0 4 29 _ rfl rfl rfl rfl
      refine wp_appendS (f := fun h : Hd => [Hd.val h]) (.tmp 26) (.tmp 29) 25 rfl info_row Tryd.underlying25 rfl (by decide) (own_ext HO1.out hx4) (eval_of e0) (l := hs2) (eval_of e1) hsl2 (fun _ => rfl) (by intro r u hu; simp at hu; subst hu; rfl) (by omega) (by simp [maxLen]; omega) (Nat.le_trans HX3.out.size hx4.size) ?_
      intro v5 w5 hown5 hgr5
      obtain ⟨A5, c5, rfl, hc5, hro5⟩ := rows_append (own_ext HO1.out hx4) hl1 hl2 (fun i hd r a b => (HG1.out i hd r a b).ext hx4) hg2 hr1 hr2 (fun h hm => (HF1.out h hm).ext hx4) hf2 hown5 hgr5
      exact hk _ _ ⟨A5, c5, rfl, hc5, hro5, Ext.grown (HX3.out.trans hx4) hgr5 (own_lt HO1.out), Nat.le_trans hx4.size hgr5.size, fun g t cs hb hne => (hb.ext hx4).grown hgr5 (own_typed (own_ext HO1.out hx4)) hne⟩
    | 2, hp =>
      obtain rfl : 7 = c' := by simpa using hp
      simp only [List.getElem?_toArray, List.getElem?_cons_zero, List.getElem?_cons_succ, Option.some.injEq] at ho
      subst ho
      refine want_none rfl ?_
      obtain ⟨u0, u1, rfl⟩ := list_2 hl
      obtain ⟨A5, c5, rfl, hc5, hro5, hx5, hsz5, hbl5⟩ := hJ
      have e0 := hF.pure 6 31 _ rfl rfl rfl rfl
      have e1 := hF.link 1 5 30 _ rfl rfl rfl rfl
      have hbd := hbl5 _ _ _ HB3d.out (by decide)
      have hcd : w'.cell? ⟨g6, 6, none⟩ = some (.slice A1 n c1) := hbd.cell 6
      have hfd : w'.frozen? ⟨g6, 6, none⟩ = false := hbd.frozen 6
      have hset := setCell_put hbd 6 (.slice A5 (n + m) c5)
      have HK := Lib.hid (hk undef _ ⟨A5, c5, hc5, hro5.put hbd (x.cells A5 (n + m) c5) (by decide) (by decide), (show Ext w w' from hx5).put hg6 _ _, by rw [putB_size]; exact hsz5, fun g t cs hb hne hg => (hbl5 g t cs hb hne).put_other (Ne.symm hg) _, hbd.put _⟩)
      clear hk hbl5 hro5 hx5 hbd
      go_simp
      exact HK.out
    | p + 3, hp => simp at hp
  intro us w6 hl hJ
  obtain ⟨u0, u1, u2, rfl⟩ := list_3 hl
  obtain ⟨A5, c5, hc5, hro5, hx6, hsz6, hbl6, hbd6⟩ := hJ
  rename_i hK
  refine hK _ _ ?_
  clear hK
  generalize hL : frameL _ _ _ _ = L
  obtain rfl : L = [(25, .pointer (some ⟨g6, 6, none⟩)), (26, .slice A1 n c1), (27, .pointer (some ⟨w.heap.size + 1, 6, none⟩)), (28, .slice B m d), (29, u0), (30, u1), (31, .pointer (some ⟨g6, 6, none⟩))] := hL.symm.trans rfl
  clear hL hl
  simp only [Act.put, List.foldl_cons, List.foldl_nil, List.setIfInBounds_toArray, List.set_cons_zero, List.set_cons_succ]
  have HBa6 := Lib.hid (hbl6 _ _ _ HB3a.out (by decide) (by omega))
  have HBb6 := Lib.hid (hbl6 _ _ _ HB3b.out (by decide) (by omega))
  have HBc6 := Lib.hid (hbl6 _ _ _ HB3c.out (by decide) (by omega))
  have HBd6 := Lib.hid hbd6
  have HRO6 := Lib.hid hro5
  have HX6 := Lib.hid hx6
  clear hbl6 hbd6 hro5 hx6 HB3a HB3b HB3c HB3d HX3 HEy3 HO1 HG1 HF1 HT1 hl1 hr1
  have hcb := fun o => HBb6.out.cell o
  have hcc := fun o => HBc6.out.cell o
  unfold Ev.cells at hcb hcc
  have hcd : ∀ o, w6.cell? ⟨g6, o, none⟩ = (#[.int .i64 x.id, .int .i64 x.inn, .int .i64 x.out, .string x.region, .int .u8 x.kind, .string x.speaker, .slice A5 (n + m) c5] : Array Value)[o]? := fun o => HBd6.out.cell o
  have hfd := fun o => HBd6.out.frozen o
  have heq : (w6.setCell ⟨g6, 1, none⟩ (.int .i64 (min x.inn y.inn))).setCell ⟨g6, 2, none⟩ (.int .i64 (max x.out y.out)) = putB w6 g6 27 ((x.joined y).cells A5 (n + m) c5) := by
    rw [setCell_put HBd6.out, setCell_put (HBd6.out.put _), putB_putB]
    rfl
  have HB7 := Lib.hid (HBd6.out.put ((x.joined y).cells A5 (n + m) c5))
  have HA7 := Lib.hid (HBa6.out.put_other (g' := g6) (t' := 27) (by omega) ((x.joined y).cells A5 (n + m) c5))
  have HX7 := Lib.hid ((show Ext w w6 from HX6.out).put hg6 27 ((x.joined y).cells A5 (n + m) c5))
  have HRO7 := Lib.hid (HRO6.out.put HBd6.out ((x.joined y).cells A5 (n + m) c5) (by decide) (by decide))
  go_upto_region 8 with fail
  clear heq hcd hfd hcb hcc HBa6 HBb6 HBc6 HBd6 HX6 HRO6
  generalize putB w6 g6 27 ((x.joined y).cells A5 (n + m) c5) = w7 at *
  go_wp2_with (first | (refine wpList_loadB rfl 27 (.tmp 6) rfl g6 27 _ _ (by exact rfl) (by exact HB7.out) Tryd.underlying27 rfl (by exact size_event) ?_) | (refine wpList_storeB rfl 27 (.tmp 4) (.tmp 48) rfl (w.heap.size + 1 + 1) 27 _ _ (by exact rfl) (by exact rfl) (by exact HA7.out) (by exact rfl) (by exact size_event) (by simp [Ev.cells, Value.oneCell']) ?_))
  refine bodyPost_ret (v := .tuple #[.agg ((x.joined y).cells A5 (n + m) c5), .int .i64 0]) ?_ rfl ⟨A5, c5, rfl, hc5, ?_, ?_⟩
  · exact results_B_tmp (P := Tryd.prog) Tryd.results15 (g := w.heap.size + 1 + 1) rfl (by exact HA7.out.put _) Tryd.underlying27 rfl size_event
  · exact (HRO7.out.put HA7.out _ (by decide) (by decide)).fresh
  · exact HX7.out.put (by omega) _ _

theorem joinPost_good {x y : Ev} {w : World} {en : Ending} {w' : World} {n m : Nat} (h1 : lessB x y = true) (l1 : x.rows.length = n) (l2 : y.rows.length = m) (h4 : n + m ≤ 4) (h : ∃ A' c', en = .returned (.tuple #[.agg ((x.joined y).cells A' (n + m) c'), .int .i64 0]) ∧ n + m ≤ c' ∧ RowsFresh w' w.heap.size A' (n + m) (x.rows ++ y.rows) ∧ Ext w w') : JoinPost x y w en w' := by
  have e0 : x.joinErr y = 0 := by unfold Ev.joinErr; rw [h1]; simp; omega
  have e1 : x.join y = x.joined y := if_pos e0
  obtain ⟨A', c', rfl, hc, hr, hx⟩ := h
  refine ⟨A', n + m, c', by rw [e0, e1], hc, h4, ?_, hx⟩
  rw [e1]
  exact hr
theorem Join_any (x y : Ev) (A : Option Addr) (n c : Nat) (B : Option Addr) (m d : Nat) (w : World) (hex : EvAt w x A n c) (hey : EvAt w y B m d) :
    Calls Tryd.prog 15 #[.agg (x.cells A n c), .agg (y.cells B m d)] w (JoinPost x y w) := by
  cases hl : lessB x y with
  | false =>
    have e0 : x.joinErr y = 8 := by unfold Ev.joinErr; rw [hl]; rfl
    exact (join_late x y A n c B m d w hl).mono fun _ _ ⟨h1, h2⟩ => joinErr_post (by rw [e0]; decide) (by rw [e0]; exact h1) h2
  | true =>
    by_cases h4 : n + m ≤ 4
    · exact (join_good x y A n c B m d w hex hey hl h4).mono fun _ _ h => joinPost_good hl hex.len hey.len h4 h
    · have e0 : x.joinErr y = 9 := by unfold Ev.joinErr; rw [hl, hex.len, hey.len, if_neg (by decide), if_pos (by omega)]
      exact (join_long x y A n c B m d w hl hex.2.2 hey.2.2 (by omega)).mono fun _ _ ⟨h1, h2⟩ => joinErr_post (by rw [e0]; decide) (by rw [e0]; exact h1) h2
end Go.Proofs.YtcgflkmkdpgchaaDoor
