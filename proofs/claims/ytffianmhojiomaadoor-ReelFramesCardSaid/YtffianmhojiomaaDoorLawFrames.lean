/- The walk of the law ReelFrames. -/
import Derived.Test.YtffianmhojiomaaDoorAwake45
namespace Go.Proofs.YtffianmhojiomaaDoor
set_option linter.unusedVariables false
set_option linter.unusedSimpArgs false
open Go.RowKit
set_option maxRecDepth 100000 in
set_option maxHeartbeats 4000000 in
theorem ReelFrames_any (e : Edl) (A : Option Addr) (n c : Nat) (t : Int) (w : World) (hE : Env w) (hl : CutsAt w A n e.cuts) (hok : EdlOk e) :
    Calls Tryd.prog 3 #[.agg (e.cells A n c), .int .i64 t] w fun en w' => en = .returned (.bool true) ∧ Ext w w' := by
  have HX := Lib.hid ((Ext.refl w).alloc (.cells (e.cells A n c) 25))
  have HB := Lib.hid (Blk.new w 25 (e.cells A n c))
  have HE := Lib.hid hE
  have HL := Lib.hid hl
  have HSm := Lib.hid (fun w' => small_any e A n c w')
  have HOf := Lib.hid (fun w' => Of_any e A n c w')
  have HAt := Lib.hid (fun w' (hx : Ext w w') (hn : n ≤ 1000000) => At_any e A n c t w' (hE.ext hx) (hl.ext hx) hn hok)
  have HRt := Lib.hid (fun w' (hx : Ext w w') (hn : n ≤ 1000000) => RAt_any e A n c t w' (hl.ext hx) hn hok)
  have HSb : Hid (smallB e n = true → n ≤ 1000000) := fun h => by have := of_decide_eq_true h; omega
  clear hE hl hok
  unfold Edl.cells at *
  unfold atVal at HAt HRt
  generalize atE e t = r at *
  obtain ⟨rs, rf, rb⟩ := r
  dsimp only at *
  go_enter Tryd.func3, Tryd.ntmps3
  go_wp2_with fail
  refine (awake_any _ (HE.out.ext HX.out)).mono ?_
  rintro en w1 ⟨rfl, hx1⟩
  have HX1 := Lib.hid (HX.out.trans hx1)
  have HB1 := Lib.hid (HB.out.ext hx1)
  clear hx1 HX HB
  go_wp2_with (refine wpList_loadB rfl 25 (.tmp 2) rfl w.heap.size 25 _ _ (by exact rfl) (by exact HB1.out) Tryd.underlying25 rfl (by exact rsize_list) ?_)
  refine (HSm.out _).mono ?_
  rintro en w2 ⟨rfl, hx2⟩
  have HX2 := Lib.hid (HX1.out.trans hx2)
  have HB2 := Lib.hid (HB1.out.ext hx2)
  clear hx2 HX1 HB1
  cases hsm : smallB e n
  · go_wp2_with fail
    go_ret
    exact ⟨rfl, HX2.out⟩
  have hn := HSb.out hsm
  clear hsm HSb
  go_wp2_with (refine wpList_loadB rfl 25 (.tmp 2) rfl w.heap.size 25 _ _ (by exact rfl) (by exact HB2.out) Tryd.underlying25 rfl (by exact rsize_list) ?_)
  refine (HOf.out _).mono ?_
  rintro en w3 ⟨rfl, hx3⟩
  have HX3 := Lib.hid (HX2.out.trans hx3)
  have HB3 := Lib.hid (HB2.out.ext hx3)
  clear hx3 HX2 HB2
  go_wp2_with fail
  refine (HAt.out _ HX3.out hn).mono ?_
  rintro en w4 ⟨rfl, hx4⟩
  have HX4 := Lib.hid (HX3.out.trans hx4)
  have HB4 := Lib.hid (HB3.out.ext hx4)
  clear hx4 HX3 HB3
  have hg4 := HB4.out.lt
  have HZ4 := Lib.hid (Blk.new w4 29 #[.string ⟨#[]⟩, .int .i64 0])
  have HX5 := Lib.hid ((HX4.out.alloc (.cells #[.string ⟨#[]⟩, .int .i64 0] 29)).put (g := w4.heap.size) HX4.out.size 29 #[.string rs, .int .i64 rf])
  have HB5 := Lib.hid ((HB4.out.alloc (.cells #[.string ⟨#[]⟩, .int .i64 0] 29)).put_other (g' := w4.heap.size) (t' := 29) (by omega) #[.string rs, .int .i64 rf])
  have HS5 := Lib.hid (HZ4.out.put #[.string rs, .int .i64 rf])
  go_wp2_with (first | (refine wpList_storeB rfl 29 (.tmp 5) (.tmp 19) rfl w4.heap.size 29 _ _ (by exact rfl) (by exact rfl) (by exact HZ4.out) (by exact rfl) (by exact size_src) (by simp [Value.oneCell']) ?_) | (refine wpList_loadB rfl 25 (.tmp 2) rfl w.heap.size 25 _ _ (by exact rfl) (by exact HB5.out) Tryd.underlying25 rfl (by exact rsize_list) ?_))
  refine (HRt.out _ HX5.out hn).mono ?_
  rintro en w6 ⟨rfl, hx6⟩
  have HX6 := Lib.hid (HX5.out.trans hx6)
  have HS6 := Lib.hid (HS5.out.ext hx6)
  clear hx6 HX5 HB5 HS5 HX4 HB4 HZ4
  have hg6 := HS6.out.lt
  have HZ6 := Lib.hid (Blk.new w6 29 #[.string ⟨#[]⟩, .int .i64 0])
  have HX7 := Lib.hid ((HX6.out.alloc (.cells #[.string ⟨#[]⟩, .int .i64 0] 29)).put (g := w6.heap.size) HX6.out.size 29 #[.string rs, .int .i64 rf])
  have HS7 := Lib.hid ((HS6.out.alloc (.cells #[.string ⟨#[]⟩, .int .i64 0] 29)).put_other (g' := w6.heap.size) (t' := 29) (by omega) #[.string rs, .int .i64 rf])
  have HT7 := Lib.hid (HZ6.out.put #[.string rs, .int .i64 rf])
  go_wp2_with (first | (refine wpList_storeB rfl 29 (.tmp 7) (.tmp 25) rfl w6.heap.size 29 _ _ (by exact rfl) (by exact rfl) (by exact HZ6.out) (by exact rfl) (by exact size_src) (by simp [Value.oneCell']) ?_) | (refine wpList_loadB rfl 29 (.tmp 5) rfl w4.heap.size 29 _ _ (by exact rfl) (by exact HS7.out) Tryd.underlying29 rfl (by exact size_src) ?_) | (refine wpList_loadB rfl 29 (.tmp 7) rfl w6.heap.size 29 _ _ (by exact rfl) (by exact HT7.out) Tryd.underlying29 rfl (by exact size_src) ?_))
  go_ret
  exact ⟨by simp, HX7.out⟩
end Go.Proofs.YtffianmhojiomaaDoor
