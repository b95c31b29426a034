/- The walk of the law EventSplits. -/
import Derived.Test.YtcgflkmkdpgchaaDoorAwake
import Derived.Test.YtcgflkmkdpgchaaDoorSameE
namespace Go.Proofs.YtcgflkmkdpgchaaDoor
set_option linter.unusedVariables false
set_option linter.unusedSimpArgs false
open Go.RowKit

set_option maxRecDepth 100000 in
set_option maxHeartbeats 8000000 in
theorem EventSplits_any (e : Ev) (A : Option Addr) (n c : Nat) (frame row id : Int) (w : World) (hE : Env w) (he : EvAt w e A n c) :
    Calls Tryd.prog 3 #[.agg (e.cells A n c), .agg #[.int .i64 frame, .int .i64 row, .int .i64 id]] w fun en w' => en = .returned (.bool true) ∧ Ext w w' := by
  have HX0 := Lib.hid (((Ext.refl w).alloc (.cells (e.cells A n c) 27)).alloc (.cells #[.int .i64 frame, .int .i64 row, .int .i64 id] 29))
  have HB0 := Lib.hid ((Blk.new w 27 (e.cells A n c)).alloc (.cells #[.int .i64 frame, .int .i64 row, .int .i64 id] 29))
  have HC0 := Lib.hid (Blk.new' (w := w.alloc (.cells (e.cells A n c) 27)) (g := w.heap.size + 1) (t := 29) (cs := #[.int .i64 frame, .int .i64 row, .int .i64 id]) (by simp))
  have HEn := Lib.hid (hE.ext HX0.out)
  have HEv := Lib.hid he
  have hle := he.len
  have hn24 := he.2.2
  clear hE he
  go_enter Tryd.func3, Tryd.ntmps3
  go_wp2_with fail
  refine (awake_any _ HEn.out).mono ?_
  rintro en w2 ⟨rfl, hx2⟩
  have HX2 := Lib.hid (HX0.out.trans hx2)
  have HB2 := Lib.hid (HB0.out.ext hx2)
  have HC2 := Lib.hid (HC0.out.ext hx2)
  have HEv2 := Lib.hid (HEv.out.ext HX2.out)
  clear hx2 HX0 HB0 HC0 HEn
  have hcc := fun o => HC2.out.cell o
  go_wp2_with (refine wpList_loadB rfl 27 (.tmp 2) rfl w.heap.size 27 _ _ (by exact rfl) (by exact HB2.out) Tryd.underlying27 rfl (by exact size_event) ?_)
  refine (Split_any e A n c frame row id w2 HEv2.out).mono ?_
  rintro en w4 ⟨Aa, na, ca, Ab, nb, cb, rfl, hca, hcb, hna, hnb, hfa, hfb, hx4⟩
  have HX4 := Lib.hid (HX2.out.trans hx4)
  have HEv4 := Lib.hid (HEv2.out.ext hx4)
  have HB4 := Lib.hid (HB2.out.ext hx4)
  have HC4 := Lib.hid (HC2.out.ext hx4)
  have HFa := Lib.hid hfa
  have HFb := Lib.hid hfb
  clear hx4 hfa hfb HEv2 HB2 HC2 HX2 hcc
  have hz1 := Lib.hid ((Blk.new w4 27 evZero).alloc (.cells evZero 27))
  have hz2 := Lib.hid (Blk.new' (w := w4.alloc (.cells evZero 27)) (g := w4.heap.size + 1) (t := 27) (cs := evZero) (by simp))
  have hxz := Lib.hid (((Ext.refl w4).alloc (.cells evZero 27)).alloc (.cells evZero 27))
  have hg1 : w.heap.size + 1 < w4.heap.size := HC4.out.lt
  generalize ha0 : e.splitL frame row id = a0 at *
  generalize hb0 : e.splitR frame row id = b0 at *
  unfold evZero at hz1 hz2 hxz
  go_upto_region 4 with (first | (refine wpList_storeB rfl 27 (.tmp 5) (.tmp 22) rfl w4.heap.size 27 _ _ (by exact rfl) (by exact rfl) (by exact hz1.out) (by exact rfl) (by exact size_event) (by simp [Ev.cells, Value.oneCell']) ?_) | (refine wpList_storeB rfl 27 (.tmp 6) (.tmp 23) rfl (w4.heap.size + 1) 27 _ _ (by exact rfl) (by exact rfl) (by exact hz2.out.put_other (by omega) _) (by exact rfl) (by exact size_event) (by simp [Ev.cells, Value.oneCell']) ?_))
  change Code.wp Tryd.prog _ _ _ (two ((w4.alloc (.cells evZero 27)).alloc (.cells evZero 27)) w4.heap.size (w4.heap.size + 1) (a0.cells Aa na ca) (b0.cells Ab nb cb))
  have hx5 : Ext w4 (two ((w4.alloc (.cells evZero 27)).alloc (.cells evZero 27)) w4.heap.size (w4.heap.size + 1) (a0.cells Aa na ca) (b0.cells Ab nb cb)) := Ext.two hxz.out (Nat.le_refl _) (by omega)
  have hba : Blk (two ((w4.alloc (.cells evZero 27)).alloc (.cells evZero 27)) w4.heap.size (w4.heap.size + 1) (a0.cells Aa na ca) (b0.cells Ab nb cb)) w4.heap.size 27 (a0.cells Aa na ca) := two_a (by omega) hz1.out.lt _ _
  have hbb : Blk (two ((w4.alloc (.cells evZero 27)).alloc (.cells evZero 27)) w4.heap.size (w4.heap.size + 1) (a0.cells Aa na ca) (b0.cells Ab nb cb)) (w4.heap.size + 1) 27 (b0.cells Ab nb cb) := two_b hz2.out.lt _ _
  generalize two ((w4.alloc (.cells evZero 27)).alloc (.cells evZero 27)) w4.heap.size (w4.heap.size + 1) (a0.cells Aa na ca) (b0.cells Ab nb cb) = w5 at hx5 hba hbb ⊢
  have HX5 := Lib.hid (HX4.out.trans hx5)
  have HEv5 := Lib.hid (HEv4.out.ext hx5)
  have HB5 := Lib.hid (HB4.out.ext hx5)
  have HC5 := Lib.hid (HC4.out.ext hx5)
  have HFa5 := Lib.hid (show EvAt w5 a0 Aa na ca from ⟨(HFa.out.ext hx5).rows, hca, by omega⟩)
  have HFb5 := Lib.hid (show EvAt w5 b0 Ab nb cb from ⟨(HFb.out.ext hx5).rows, hcb, by omega⟩)
  have HBa5 := Lib.hid hba
  have HBb5 := Lib.hid hbb
  clear HX4 HEv4 HB4 HC4 HFa HFb hz1 hz2 hxz hx5 hba hbb
  generalize w4.heap.size = ga at *
  have hcc := fun o => HC5.out.cell o
  go_wp2_with (refine wpList_loadB rfl 27 (.tmp 2) rfl w.heap.size 27 _ _ (by exact rfl) (by exact HB5.out) Tryd.underlying27 rfl (by exact size_event) ?_)
  refine (RSplit_any e A n c frame row id w5 HEv5.out).mono ?_
  rintro en w6 ⟨Ac, nc, cc, Ad, nd, cd, rfl, hcc1, hcd1, hnc, hnd, hfc, hfd, hx6⟩
  rw [ha0, hb0] at *
  have HX6 := Lib.hid (HX5.out.trans hx6)
  have HFa6 := Lib.hid (HFa5.out.ext hx6)
  have HFb6 := Lib.hid (HFb5.out.ext hx6)
  have HBa6 := Lib.hid (HBa5.out.ext hx6)
  have HBb6 := Lib.hid (HBb5.out.ext hx6)
  have HFc := Lib.hid hfc
  have HFd := Lib.hid hfd
  have hga6 : ga + 1 < w6.heap.size := HBb6.out.lt
  clear hx6 hfc hfd HX5 HEv5 HB5 HC5 HFa5 HFb5 HBa5 HBb5 hcc
  have hz1 := Lib.hid ((Blk.new w6 27 evZero).alloc (.cells evZero 27))
  have hz2 := Lib.hid (Blk.new' (w := w6.alloc (.cells evZero 27)) (g := w6.heap.size + 1) (t := 27) (cs := evZero) (by simp))
  have hxz := Lib.hid (((Ext.refl w6).alloc (.cells evZero 27)).alloc (.cells evZero 27))
  unfold evZero at hz1 hz2 hxz
  go_upto_region 5 with (first | (refine wpList_storeB rfl 27 (.tmp 8) (.tmp 34) rfl w6.heap.size 27 _ _ (by exact rfl) (by exact rfl) (by exact hz1.out) (by exact rfl) (by exact size_event) (by simp [Ev.cells, Value.oneCell']) ?_) | (refine wpList_storeB rfl 27 (.tmp 9) (.tmp 35) rfl (w6.heap.size + 1) 27 _ _ (by exact rfl) (by exact rfl) (by exact hz2.out.put_other (by omega) _) (by exact rfl) (by exact size_event) (by simp [Ev.cells, Value.oneCell']) ?_))
  change Code.wp Tryd.prog _ _ _ (two ((w6.alloc (.cells evZero 27)).alloc (.cells evZero 27)) w6.heap.size (w6.heap.size + 1) (a0.cells Ac nc cc) (b0.cells Ad nd cd))
  have hx7 : Ext w6 (two ((w6.alloc (.cells evZero 27)).alloc (.cells evZero 27)) w6.heap.size (w6.heap.size + 1) (a0.cells Ac nc cc) (b0.cells Ad nd cd)) := Ext.two hxz.out (Nat.le_refl _) (by omega)
  have hbc : Blk (two ((w6.alloc (.cells evZero 27)).alloc (.cells evZero 27)) w6.heap.size (w6.heap.size + 1) (a0.cells Ac nc cc) (b0.cells Ad nd cd)) w6.heap.size 27 (a0.cells Ac nc cc) := two_a (by omega) hz1.out.lt _ _
  have hbd : Blk (two ((w6.alloc (.cells evZero 27)).alloc (.cells evZero 27)) w6.heap.size (w6.heap.size + 1) (a0.cells Ac nc cc) (b0.cells Ad nd cd)) (w6.heap.size + 1) 27 (b0.cells Ad nd cd) := two_b hz2.out.lt _ _
  generalize two ((w6.alloc (.cells evZero 27)).alloc (.cells evZero 27)) w6.heap.size (w6.heap.size + 1) (a0.cells Ac nc cc) (b0.cells Ad nd cd) = w7 at hx7 hbc hbd ⊢
  have HX7 := Lib.hid (HX6.out.trans hx7)
  have HFa7 := Lib.hid (HFa6.out.ext hx7)
  have HFb7 := Lib.hid (HFb6.out.ext hx7)
  have HBa7 := Lib.hid (HBa6.out.ext hx7)
  have HBb7 := Lib.hid (HBb6.out.ext hx7)
  have HFc7 := Lib.hid (show EvAt w7 a0 Ac nc cc from ⟨(HFc.out.ext hx7).rows, hcc1, by omega⟩)
  have HFd7 := Lib.hid (show EvAt w7 b0 Ad nd cd from ⟨(HFd.out.ext hx7).rows, hcd1, by omega⟩)
  have HBc7 := Lib.hid hbc
  have HBd7 := Lib.hid hbd
  clear HX6 HFa6 HFb6 HBa6 HBb6 HFc HFd hz1 hz2 hxz hx7 hbc hbd
  generalize w6.heap.size = gc at *
  have hca7 := fun o => HBa7.out.cell o
  have hcc7 := fun o => HBc7.out.cell o
  unfold Ev.cells at hca7 hcc7
  go_wp2_with fail
  refine (RESame_any a0 a0 Aa na ca Ac nc cc w7 HFa7.out HFc7.out).mono ?_
  rintro en w8 ⟨rfl, hx8⟩
  rw [decide_eq_true rfl]
  have HX8 := Lib.hid (HX7.out.trans hx8)
  have HFb8 := Lib.hid (HFb7.out.ext hx8)
  have HFd8 := Lib.hid (HFd7.out.ext hx8)
  have HBb8 := Lib.hid (HBb7.out.ext hx8)
  have HBd8 := Lib.hid (HBd7.out.ext hx8)
  clear hx8 HX7 HFa7 HFb7 HBa7 HBb7 HFc7 HFd7 HBc7 HBd7 hca7 hcc7
  have hcb8 := fun o => HBb8.out.cell o
  have hcd8 := fun o => HBd8.out.cell o
  unfold Ev.cells at hcb8 hcd8
  go_wp2_with fail
  refine (RESame_any b0 b0 Ab nb cb Ad nd cd w8 HFb8.out HFd8.out).mono ?_
  rintro en w9 ⟨rfl, hx9⟩
  rw [decide_eq_true rfl]
  have HX9 := Lib.hid (HX8.out.trans hx9)
  clear hx9
  go_wp2_with fail
  go_ret
  exact ⟨rfl, HX9.out⟩
end Go.Proofs.YtcgflkmkdpgchaaDoor
