/- The walk of the law EventReturns. -/
import Derived.Test.YtcgflkmkdpgchaaDoorDet
import Derived.Test.YtcgflkmkdpgchaaDoorSameE
import Derived.Test.YtcgflkmkdpgchaaDoorJoin
import Derived.Test.YtcgflkmkdpgchaaDoorRetPlain
namespace Go.Proofs.YtcgflkmkdpgchaaDoor
set_option linter.unusedVariables false
set_option linter.unusedSimpArgs false
open Go.RowKit

theorem EvSmall.part {e f : Ev} (h : EvSmall e) (hr : f.region = e.region) (hs : f.speaker = e.speaker) (hsub : ∀ r ∈ f.rows, r ∈ e.rows) : EvSmall f := ⟨by rw [hr]; exact h.1, by rw [hs]; exact h.2.1, fun r hr => h.2.2 r (hsub r hr)⟩
theorem bytes_take (l : List Row) (k : Nat) : ((l.take k).map rowBytes).sum ≤ (l.map rowBytes).sum ∧ ((l.drop k).map rowBytes).sum ≤ (l.map rowBytes).sum := by
  have h : (l.map rowBytes).sum = ((l.take k).map rowBytes).sum + ((l.drop k).map rowBytes).sum := by
    conv => lhs; rw [← List.take_append_drop k l]
    rw [List.map_append, List.sum_append]
  omega

set_option maxRecDepth 100000 in
set_option maxHeartbeats 4000000 in
theorem returns_bad (e : Ev) (A : Option Addr) (n c : Nat) (A2 : Option Addr) (n2 c2 : Nat) (frame row id : Int) (w : World) (hE : Env w) (he : EvAt w e A n c) (hk : e.splitErr frame row id ≠ 0) :
    Calls Tryd.prog 7 #[.agg (e.cells A n c), .slice A2 n2 c2, .agg #[.int .i64 frame, .int .i64 row, .int .i64 id]] w fun en w' => en = .returned (.bool true) ∧ Ext w w' := by
  have hk' : (e.splitErr frame row id != 0) = true := by simpa using hk
  have HZ : Hid (e.splitL frame row id = Ev.zero ∧ e.splitR frame row id = Ev.zero) := ⟨if_neg hk, if_neg hk⟩
  clear hk
  have HX0 := Lib.hid (((Ext.refl w).alloc (.cells (e.cells A n c) 27)).alloc (.cells #[.int .i64 frame, .int .i64 row, .int .i64 id] 29))
  have HB0 := Lib.hid ((Blk.new w 27 (e.cells A n c)).alloc (.cells #[.int .i64 frame, .int .i64 row, .int .i64 id] 29))
  have HC0 := Lib.hid (Blk.new' (w := w.alloc (.cells (e.cells A n c) 27)) (g := w.heap.size + 1) (t := 29) (cs := #[.int .i64 frame, .int .i64 row, .int .i64 id]) (by simp))
  have HEn := Lib.hid (hE.ext HX0.out)
  have HEn0 := Lib.hid hE
  have HEv := Lib.hid he
  have hle0 := he.len
  have hn24 := he.2.2
  clear hE he
  go_enter Tryd.func7, Tryd.ntmps7
  go_wp2_with fail
  refine (awake_any _ HEn.out).mono ?_
  rintro en w2 ⟨rfl, hx2⟩
  have HX2 := Lib.hid (HX0.out.trans hx2)
  have HB2 := Lib.hid (HB0.out.ext hx2)
  have HC2 := Lib.hid (HC0.out.ext hx2)
  have HEv2 := Lib.hid (HEv.out.ext HX2.out)
  clear hx2 HX0 HB0 HC0 HEn
  have hcc := fun o => HC2.out.cell o
  go_wp2_with (refine wpList_loadB rfl 27 (.tmp 3) rfl w.heap.size 27 _ _ (by exact rfl) (by exact HB2.out) Tryd.underlying27 rfl (by exact size_event) ?_)
  refine (Split_any e A n c frame row id w2 HEv2.out).mono ?_
  rintro en w4 ⟨Aa, na, ca, Ab, nb, cb, rfl, hca, hcb, hna, hnb, hfa0, hfb0, hx4⟩
  have HX4 := Lib.hid (HX2.out.trans hx4)
  have HB4 := Lib.hid (HB2.out.ext hx4)
  have HFa0 := Lib.hid hfa0
  have HFb0 := Lib.hid hfb0
  have hg1 : w.heap.size + 1 < w4.heap.size := (HC2.out.ext hx4).lt
  clear hx4 hfa0 hfb0 HEv2 HB2 HC2 HX2 hcc
  have hz1 := Lib.hid ((Blk.new w4 27 evZero).alloc (.cells evZero 27))
  have hz2 := Lib.hid (Blk.new' (w := w4.alloc (.cells evZero 27)) (g := w4.heap.size + 1) (t := 27) (cs := evZero) (by simp))
  have hxz := Lib.hid (((Ext.refl w4).alloc (.cells evZero 27)).alloc (.cells evZero 27))
  generalize ha0 : e.splitL frame row id = a0 at *
  generalize hb0 : e.splitR frame row id = b0 at *
  have Ha0 := Lib.hid ha0
  have Hb0 := Lib.hid hb0
  clear ha0 hb0
  unfold evZero at hz1 hz2 hxz
  go_upto_region 4 with (first | (refine wpList_storeB rfl 27 (.tmp 7) (.tmp 23) rfl w4.heap.size 27 _ _ (by exact rfl) (by exact rfl) (by exact hz1.out) (by exact rfl) (by exact size_event) (by simp [Ev.cells, Value.oneCell']) ?_) | (refine wpList_storeB rfl 27 (.tmp 8) (.tmp 24) rfl (w4.heap.size + 1) 27 _ _ (by exact rfl) (by exact rfl) (by exact hz2.out.put_other (by omega) _) (by exact rfl) (by exact size_event) (by simp [Ev.cells, Value.oneCell']) ?_))
  change Code.wp Tryd.prog _ _ _ (two ((w4.alloc (.cells evZero 27)).alloc (.cells evZero 27)) w4.heap.size (w4.heap.size + 1) (a0.cells Aa na ca) (b0.cells Ab nb cb))
  have hx5 : Ext w4 (two ((w4.alloc (.cells evZero 27)).alloc (.cells evZero 27)) w4.heap.size (w4.heap.size + 1) (a0.cells Aa na ca) (b0.cells Ab nb cb)) := Ext.two hxz.out (Nat.le_refl _) (by omega)
  have hba : Blk (two ((w4.alloc (.cells evZero 27)).alloc (.cells evZero 27)) w4.heap.size (w4.heap.size + 1) (a0.cells Aa na ca) (b0.cells Ab nb cb)) w4.heap.size 27 (a0.cells Aa na ca) := two_a (by omega) hz1.out.lt _ _
  have hbb : Blk (two ((w4.alloc (.cells evZero 27)).alloc (.cells evZero 27)) w4.heap.size (w4.heap.size + 1) (a0.cells Aa na ca) (b0.cells Ab nb cb)) (w4.heap.size + 1) 27 (b0.cells Ab nb cb) := two_b hz2.out.lt _ _
  generalize two ((w4.alloc (.cells evZero 27)).alloc (.cells evZero 27)) w4.heap.size (w4.heap.size + 1) (a0.cells Aa na ca) (b0.cells Ab nb cb) = w5 at hx5 hba hbb ⊢
  have HX5 := Lib.hid (HX4.out.trans hx5)
  have HB5 := Lib.hid (HB4.out.ext hx5)
  have HEa5 := Lib.hid (show EvAt w5 a0 Aa na ca from ⟨(HFa0.out.ext hx5).rows, hca, by omega⟩)
  have HEb5 := Lib.hid (show EvAt w5 b0 Ab nb cb from ⟨(HFb0.out.ext hx5).rows, hcb, by omega⟩)
  have HBa5 := Lib.hid hba
  have HBb5 := Lib.hid hbb
  clear HX4 HB4 HFa0 HFb0 hz1 hz2 hxz hx5 hba hbb
  generalize w4.heap.size = ga at *
  obtain rfl : a0 = Ev.zero := HZ.out.1
  obtain rfl : b0 = Ev.zero := HZ.out.2
  have hna0 : na = 0 := HEa5.out.len.symm
  have hnb0 : nb = 0 := HEb5.out.len.symm
  subst hna0 hnb0
  have hca5 := fun o => HBa5.out.cell o
  have hcb5 := fun o => HBb5.out.cell o
  unfold Ev.cells at hca5 hcb5
  go_wp2_with fail
  go_ret
  exact ⟨rfl, HX5.out⟩

set_option maxRecDepth 100000 in
set_option maxHeartbeats 4000000 in
theorem returns_invalid (e : Ev) (A : Option Addr) (n c : Nat) (A2 : Option Addr) (n2 c2 : Nat) (regs : List Reg) (frame row id : Int) (w : World) (hE : Env w) (he : EvAt w e A n c) (hsm : EvSmall e) (hr : RegsAt w A2 n2 regs) (hr2 : n2 ≤ 9223372036854775807) (hrs : RegsSmall regs) (hk : e.splitErr frame row id = 0) (hk2 : e.err regs ≠ 0) :
    Calls Tryd.prog 7 #[.agg (e.cells A n c), .slice A2 n2 c2, .agg #[.int .i64 frame, .int .i64 row, .int .i64 id]] w fun en w' => en = .returned (.bool true) ∧ Ext w w' := by
  have HSe0 := Lib.hid hsm
  have HR := Lib.hid hr
  have HRs := Lib.hid hrs
  clear hsm hr hrs
  have hk' : (e.err regs != 0) = true := by simpa using hk2
  clear hk2
  have HX0 := Lib.hid (((Ext.refl w).alloc (.cells (e.cells A n c) 27)).alloc (.cells #[.int .i64 frame, .int .i64 row, .int .i64 id] 29))
  have HB0 := Lib.hid ((Blk.new w 27 (e.cells A n c)).alloc (.cells #[.int .i64 frame, .int .i64 row, .int .i64 id] 29))
  have HC0 := Lib.hid (Blk.new' (w := w.alloc (.cells (e.cells A n c) 27)) (g := w.heap.size + 1) (t := 29) (cs := #[.int .i64 frame, .int .i64 row, .int .i64 id]) (by simp))
  have HEn := Lib.hid (hE.ext HX0.out)
  have HEn0 := Lib.hid hE
  have HEv := Lib.hid he
  have hle0 := he.len
  have hn24 := he.2.2
  clear hE he
  go_enter Tryd.func7, Tryd.ntmps7
  go_wp2_with fail
  refine (awake_any _ HEn.out).mono ?_
  rintro en w2 ⟨rfl, hx2⟩
  have HX2 := Lib.hid (HX0.out.trans hx2)
  have HB2 := Lib.hid (HB0.out.ext hx2)
  have HC2 := Lib.hid (HC0.out.ext hx2)
  have HEv2 := Lib.hid (HEv.out.ext HX2.out)
  clear hx2 HX0 HB0 HC0 HEn
  have hcc := fun o => HC2.out.cell o
  go_wp2_with (refine wpList_loadB rfl 27 (.tmp 3) rfl w.heap.size 27 _ _ (by exact rfl) (by exact HB2.out) Tryd.underlying27 rfl (by exact size_event) ?_)
  refine (Split_any e A n c frame row id w2 HEv2.out).mono ?_
  rintro en w4 ⟨Aa, na, ca, Ab, nb, cb, rfl, hca, hcb, hna, hnb, hfa0, hfb0, hx4⟩
  have HX4 := Lib.hid (HX2.out.trans hx4)
  have HB4 := Lib.hid (HB2.out.ext hx4)
  have HFa0 := Lib.hid hfa0
  have HFb0 := Lib.hid hfb0
  have hg1 : w.heap.size + 1 < w4.heap.size := (HC2.out.ext hx4).lt
  clear hx4 hfa0 hfb0 HEv2 HB2 HC2 HX2 hcc
  have hz1 := Lib.hid ((Blk.new w4 27 evZero).alloc (.cells evZero 27))
  have hz2 := Lib.hid (Blk.new' (w := w4.alloc (.cells evZero 27)) (g := w4.heap.size + 1) (t := 27) (cs := evZero) (by simp))
  have hxz := Lib.hid (((Ext.refl w4).alloc (.cells evZero 27)).alloc (.cells evZero 27))
  generalize ha0 : e.splitL frame row id = a0 at *
  generalize hb0 : e.splitR frame row id = b0 at *
  have Ha0 := Lib.hid ha0
  have Hb0 := Lib.hid hb0
  clear ha0 hb0
  unfold evZero at hz1 hz2 hxz
  go_upto_region 4 with (first | (refine wpList_storeB rfl 27 (.tmp 7) (.tmp 23) rfl w4.heap.size 27 _ _ (by exact rfl) (by exact rfl) (by exact hz1.out) (by exact rfl) (by exact size_event) (by simp [Ev.cells, Value.oneCell']) ?_) | (refine wpList_storeB rfl 27 (.tmp 8) (.tmp 24) rfl (w4.heap.size + 1) 27 _ _ (by exact rfl) (by exact rfl) (by exact hz2.out.put_other (by omega) _) (by exact rfl) (by exact size_event) (by simp [Ev.cells, Value.oneCell']) ?_))
  change Code.wp Tryd.prog _ _ _ (two ((w4.alloc (.cells evZero 27)).alloc (.cells evZero 27)) w4.heap.size (w4.heap.size + 1) (a0.cells Aa na ca) (b0.cells Ab nb cb))
  have hx5 : Ext w4 (two ((w4.alloc (.cells evZero 27)).alloc (.cells evZero 27)) w4.heap.size (w4.heap.size + 1) (a0.cells Aa na ca) (b0.cells Ab nb cb)) := Ext.two hxz.out (Nat.le_refl _) (by omega)
  have hba : Blk (two ((w4.alloc (.cells evZero 27)).alloc (.cells evZero 27)) w4.heap.size (w4.heap.size + 1) (a0.cells Aa na ca) (b0.cells Ab nb cb)) w4.heap.size 27 (a0.cells Aa na ca) := two_a (by omega) hz1.out.lt _ _
  have hbb : Blk (two ((w4.alloc (.cells evZero 27)).alloc (.cells evZero 27)) w4.heap.size (w4.heap.size + 1) (a0.cells Aa na ca) (b0.cells Ab nb cb)) (w4.heap.size + 1) 27 (b0.cells Ab nb cb) := two_b hz2.out.lt _ _
  generalize two ((w4.alloc (.cells evZero 27)).alloc (.cells evZero 27)) w4.heap.size (w4.heap.size + 1) (a0.cells Aa na ca) (b0.cells Ab nb cb) = w5 at hx5 hba hbb ⊢
  have HX5 := Lib.hid (HX4.out.trans hx5)
  have HB5 := Lib.hid (HB4.out.ext hx5)
  have HEa5 := Lib.hid (show EvAt w5 a0 Aa na ca from ⟨(HFa0.out.ext hx5).rows, hca, by omega⟩)
  have HEb5 := Lib.hid (show EvAt w5 b0 Ab nb cb from ⟨(HFb0.out.ext hx5).rows, hcb, by omega⟩)
  have HBa5 := Lib.hid hba
  have HBb5 := Lib.hid hbb
  clear HX4 HB4 HFa0 HFb0 hz1 hz2 hxz hx5 hba hbb
  generalize w4.heap.size = ga at *
  go_wp2_with (refine wpList_loadB rfl 27 (.tmp 3) rfl w.heap.size 27 _ _ (by exact rfl) (by exact HB5.out) Tryd.underlying27 rfl (by exact size_event) ?_)
  refine (ECheck_any e A n c A2 n2 c2 regs w5 (HEn0.out.ext HX5.out) (HEv.out.ext HX5.out) HSe0.out (HR.out.ext HX5.out) hr2 HRs.out).mono ?_
  rintro en w6 ⟨rfl, hx6⟩
  have HX6 := Lib.hid (HX5.out.trans hx6)
  clear hx6
  go_wp2_with fail
  go_ret
  exact ⟨rfl, HX6.out⟩

set_option maxRecDepth 100000 in
set_option maxHeartbeats 4000000 in
theorem returns_valid (e : Ev) (A : Option Addr) (n c : Nat) (A2 : Option Addr) (n2 c2 : Nat) (regs : List Reg) (frame row id : Int) (w : World) (hE : Env w) (he : EvAt w e A n c) (hsm : EvSmall e) (hby : e.bytes ≤ 1099511627776) (hr : RegsAt w A2 n2 regs) (hr2 : n2 ≤ 9223372036854775807) (hrs : RegsSmall regs) (hk : e.splitErr frame row id = 0) (hk2 : e.err regs = 0) :
    Calls Tryd.prog 7 #[.agg (e.cells A n c), .slice A2 n2 c2, .agg #[.int .i64 frame, .int .i64 row, .int .i64 id]] w fun en w' => en = .returned (.bool true) ∧ Ext w w' := by
  have HSe0 := Lib.hid hsm
  have HYe := Lib.hid hby
  have HR := Lib.hid hr
  have HRs := Lib.hid hrs
  have HOk := Lib.hid (Ev.ok_of hk2)
  have HSp := Lib.hid hk
  clear hsm hby hr hrs
  have HX0 := Lib.hid (((Ext.refl w).alloc (.cells (e.cells A n c) 27)).alloc (.cells #[.int .i64 frame, .int .i64 row, .int .i64 id] 29))
  have HB0 := Lib.hid ((Blk.new w 27 (e.cells A n c)).alloc (.cells #[.int .i64 frame, .int .i64 row, .int .i64 id] 29))
  have HC0 := Lib.hid (Blk.new' (w := w.alloc (.cells (e.cells A n c) 27)) (g := w.heap.size + 1) (t := 29) (cs := #[.int .i64 frame, .int .i64 row, .int .i64 id]) (by simp))
  have HEn := Lib.hid (hE.ext HX0.out)
  have HEn0 := Lib.hid hE
  have HEv := Lib.hid he
  have hle0 := he.len
  have hn24 := he.2.2
  clear hE he
  go_enter Tryd.func7, Tryd.ntmps7
  go_wp2_with fail
  refine (awake_any _ HEn.out).mono ?_
  rintro en w2 ⟨rfl, hx2⟩
  have HX2 := Lib.hid (HX0.out.trans hx2)
  have HB2 := Lib.hid (HB0.out.ext hx2)
  have HC2 := Lib.hid (HC0.out.ext hx2)
  have HEv2 := Lib.hid (HEv.out.ext HX2.out)
  clear hx2 HX0 HB0 HC0 HEn
  have hcc := fun o => HC2.out.cell o
  go_wp2_with (refine wpList_loadB rfl 27 (.tmp 3) rfl w.heap.size 27 _ _ (by exact rfl) (by exact HB2.out) Tryd.underlying27 rfl (by exact size_event) ?_)
  refine (Split_any e A n c frame row id w2 HEv2.out).mono ?_
  rintro en w4 ⟨Aa, na, ca, Ab, nb, cb, rfl, hca, hcb, hna, hnb, hfa0, hfb0, hx4⟩
  have HX4 := Lib.hid (HX2.out.trans hx4)
  have HB4 := Lib.hid (HB2.out.ext hx4)
  have HFa0 := Lib.hid hfa0
  have HFb0 := Lib.hid hfb0
  have hg1 : w.heap.size + 1 < w4.heap.size := (HC2.out.ext hx4).lt
  clear hx4 hfa0 hfb0 HEv2 HB2 HC2 HX2 hcc
  have hz1 := Lib.hid ((Blk.new w4 27 evZero).alloc (.cells evZero 27))
  have hz2 := Lib.hid (Blk.new' (w := w4.alloc (.cells evZero 27)) (g := w4.heap.size + 1) (t := 27) (cs := evZero) (by simp))
  have hxz := Lib.hid (((Ext.refl w4).alloc (.cells evZero 27)).alloc (.cells evZero 27))
  generalize ha0 : e.splitL frame row id = a0 at *
  generalize hb0 : e.splitR frame row id = b0 at *
  have Ha0 := Lib.hid ha0
  have Hb0 := Lib.hid hb0
  clear ha0 hb0
  unfold evZero at hz1 hz2 hxz
  go_upto_region 4 with (first | (refine wpList_storeB rfl 27 (.tmp 7) (.tmp 23) rfl w4.heap.size 27 _ _ (by exact rfl) (by exact rfl) (by exact hz1.out) (by exact rfl) (by exact size_event) (by simp [Ev.cells, Value.oneCell']) ?_) | (refine wpList_storeB rfl 27 (.tmp 8) (.tmp 24) rfl (w4.heap.size + 1) 27 _ _ (by exact rfl) (by exact rfl) (by exact hz2.out.put_other (by omega) _) (by exact rfl) (by exact size_event) (by simp [Ev.cells, Value.oneCell']) ?_))
  change Code.wp Tryd.prog _ _ _ (two ((w4.alloc (.cells evZero 27)).alloc (.cells evZero 27)) w4.heap.size (w4.heap.size + 1) (a0.cells Aa na ca) (b0.cells Ab nb cb))
  have hx5 : Ext w4 (two ((w4.alloc (.cells evZero 27)).alloc (.cells evZero 27)) w4.heap.size (w4.heap.size + 1) (a0.cells Aa na ca) (b0.cells Ab nb cb)) := Ext.two hxz.out (Nat.le_refl _) (by omega)
  have hba : Blk (two ((w4.alloc (.cells evZero 27)).alloc (.cells evZero 27)) w4.heap.size (w4.heap.size + 1) (a0.cells Aa na ca) (b0.cells Ab nb cb)) w4.heap.size 27 (a0.cells Aa na ca) := two_a (by omega) hz1.out.lt _ _
  have hbb : Blk (two ((w4.alloc (.cells evZero 27)).alloc (.cells evZero 27)) w4.heap.size (w4.heap.size + 1) (a0.cells Aa na ca) (b0.cells Ab nb cb)) (w4.heap.size + 1) 27 (b0.cells Ab nb cb) := two_b hz2.out.lt _ _
  generalize two ((w4.alloc (.cells evZero 27)).alloc (.cells evZero 27)) w4.heap.size (w4.heap.size + 1) (a0.cells Aa na ca) (b0.cells Ab nb cb) = w5 at hx5 hba hbb ⊢
  have HX5 := Lib.hid (HX4.out.trans hx5)
  have HB5 := Lib.hid (HB4.out.ext hx5)
  have HEa5 := Lib.hid (show EvAt w5 a0 Aa na ca from ⟨(HFa0.out.ext hx5).rows, hca, by omega⟩)
  have HEb5 := Lib.hid (show EvAt w5 b0 Ab nb cb from ⟨(HFb0.out.ext hx5).rows, hcb, by omega⟩)
  have HBa5 := Lib.hid hba
  have HBb5 := Lib.hid hbb
  clear HX4 HB4 HFa0 HFb0 hz1 hz2 hxz hx5 hba hbb
  generalize w4.heap.size = ga at *
  go_wp2_with (refine wpList_loadB rfl 27 (.tmp 3) rfl w.heap.size 27 _ _ (by exact rfl) (by exact HB5.out) Tryd.underlying27 rfl (by exact size_event) ?_)
  refine (ECheck_any e A n c A2 n2 c2 regs w5 (HEn0.out.ext HX5.out) (HEv.out.ext HX5.out) HSe0.out (HR.out.ext HX5.out) hr2 HRs.out).mono ?_
  rintro en w6 ⟨rfl, hx6⟩
  have hk3 := hk2
  rw [hk2]
  have HX6 := Lib.hid (HX5.out.trans hx6)
  have HB6 := Lib.hid (HB5.out.ext hx6)
  have HEa6 := Lib.hid (HEa5.out.ext hx6)
  have HEb6 := Lib.hid (HEb5.out.ext hx6)
  have HBa6 := Lib.hid (HBa5.out.ext hx6)
  have HBb6 := Lib.hid (HBb5.out.ext hx6)
  clear hx6 HX5 HB5 HEa5 HEb5 HBa5 HBb5 hk2 hk3
  go_wp2_with (first | (refine wpList_loadB rfl 27 (.tmp 7) rfl ga 27 _ _ (by exact rfl) (by exact HBa6.out) Tryd.underlying27 rfl (by exact size_event) ?_) | (refine wpList_loadB rfl 27 (.tmp 8) rfl (ga + 1) 27 _ _ (by exact rfl) (by exact HBb6.out) Tryd.underlying27 rfl (by exact size_event) ?_))
  refine (Join_any a0 b0 Aa na ca Ab nb cb w6 HEa6.out HEb6.out).mono ?_
  rintro en w7 ⟨Aj, nj, cj, rfl, hcj, hnj, hfj, hx7⟩
  have ea : a0 = e.left frame row.toNat := by rw [← Ha0.out]; exact if_pos HSp.out
  have eb : b0 = e.right frame row.toNat id := by rw [← Hb0.out]; exact if_pos HSp.out
  have hj : a0.join b0 = e := by rw [ea, eb]; exact parts_join HOk.out HSp.out
  have hje : a0.joinErr b0 = 0 := by rw [ea, eb]; exact parts_err HOk.out HSp.out
  have HKa : Hid (a0.err regs = 0) := by show a0.err regs = 0; rw [ea]; exact Ev.err_of (left_ok HOk.out HSp.out)
  have HKb : Hid (b0.err regs = 0) := by show b0.err regs = 0; rw [eb]; exact Ev.err_of (right_ok HOk.out HSp.out)
  have hfr := parts_frames HOk.out HSp.out
  have hln := parts_len HOk.out HSp.out
  rw [← ea, ← eb] at hfr hln
  have hOa : a0.Ok regs := Ev.ok_of HKa.out
  have hOb : b0.Ok regs := Ev.ok_of HKb.out
  have bfa := ok_frames_bounds hOa
  have bfb := ok_frames_bounds hOb
  have bla := ok_len_bounds hOa
  have blb := ok_len_bounds hOb
  have HSa : Hid (EvSmall a0) := by show EvSmall a0; rw [ea]; exact HSe0.out.part rfl rfl fun r hr => List.mem_of_mem_take hr
  have HSb : Hid (EvSmall b0) := by show EvSmall b0; rw [eb]; exact HSe0.out.part rfl rfl fun r hr => List.mem_of_mem_drop hr
  have HYa : Hid (a0.bytes ≤ 1099511627776) := by show a0.bytes ≤ _; rw [ea]; exact Nat.le_trans (bytes_take e.rows row.toNat).1 HYe.out
  have HYb : Hid (b0.bytes ≤ 1099511627776) := by show b0.bytes ≤ _; rw [eb]; exact Nat.le_trans (bytes_take e.rows row.toNat).2 HYe.out
  rw [hj, hje]
  rw [hj] at hfj
  clear hj hje hOa hOb ea eb Ha0 Hb0 HOk HSp
  have HX7 := Lib.hid (HX6.out.trans hx7)
  have HB7 := Lib.hid (HB6.out.ext hx7)
  have HEa7 := Lib.hid (HEa6.out.ext hx7)
  have HEb7 := Lib.hid (HEb6.out.ext hx7)
  have HBa7 := Lib.hid (HBa6.out.ext hx7)
  have HBb7 := Lib.hid (HBb6.out.ext hx7)
  have HFj := Lib.hid hfj
  clear hx7 hfj HX6 HB6 HEa6 HEb6 HBa6 HBb6
  have hz := Lib.hid (Blk.new w7 27 evZero)
  have hxz := Lib.hid ((Ext.refl w7).alloc (.cells evZero 27))
  unfold evZero at hz hxz
  go_upto_region 9 with (refine wpList_storeB rfl 27 (.tmp 10) (.tmp 46) rfl w7.heap.size 27 _ _ (by exact rfl) (by exact rfl) (by exact hz.out) (by exact rfl) (by exact size_event) (by simp [Ev.cells, Value.oneCell']) ?_)
  have hx9 := (hxz.out).put (Nat.le_refl _) 27 (e.cells Aj nj cj)
  have hbj := hz.out.put (e.cells Aj nj cj)
  generalize putB (w7.alloc _) w7.heap.size 27 (e.cells Aj nj cj) = w9 at hx9 hbj ⊢
  have HX9 := Lib.hid (HX7.out.trans hx9)
  have HBe := Lib.hid (HB7.out.ext hx9)
  have HBa := Lib.hid (HBa7.out.ext hx9)
  have HBb := Lib.hid (HBb7.out.ext hx9)
  have HBj := Lib.hid hbj
  have HEa9 := Lib.hid (HEa7.out.ext hx9)
  have HEb9 := Lib.hid (HEb7.out.ext hx9)
  have HEj9 := Lib.hid (show EvAt w9 e Aj nj cj from ⟨(HFj.out.ext hx9).rows, hcj, by omega⟩)
  have HEe9 := Lib.hid (HEv.out.ext HX9.out)
  have HEn9 := Lib.hid (HEn0.out.ext HX9.out)
  have HR9 := Lib.hid (HR.out.ext HX9.out)
  clear hx9 hbj hz hxz HX7 HB7 HEa7 HEb7 HBa7 HBb7 HFj
  generalize w7.heap.size = gj at *
  generalize hfa : a0.frames = fa at *
  generalize hfb : b0.frames = fb at *
  generalize hla : a0.len = la at *
  generalize hlb : b0.len = lb at *
  have hfe : fa + fb = e.frames := hfr
  have hle : la + 1 + lb = e.len := hln
  have HCa := Lib.hid (fun w' hx => by have := ECheck_any a0 Aa na ca A2 n2 c2 regs w' (HEn9.out.ext hx) (HEa9.out.ext hx) HSa.out (HR9.out.ext hx) hr2 HRs.out; rwa [HKa.out] at this : ∀ w', Ext w9 w' → Calls Tryd.prog 19 #[.agg (a0.cells Aa na ca), .slice A2 n2 c2] w' fun e w'' => e = .returned (.int .i64 0) ∧ Ext w' w'')
  have HCb := Lib.hid (fun w' hx => by have := ECheck_any b0 Ab nb cb A2 n2 c2 regs w' (HEn9.out.ext hx) (HEb9.out.ext hx) HSb.out (HR9.out.ext hx) hr2 HRs.out; rwa [HKb.out] at this : ∀ w', Ext w9 w' → Calls Tryd.prog 19 #[.agg (b0.cells Ab nb cb), .slice A2 n2 c2] w' fun e w'' => e = .returned (.int .i64 0) ∧ Ext w' w'')
  have HFa := Lib.hid (fun w' hx => by have := Frames_any a0 Aa na ca w'; rwa [hfa] at this : ∀ w', Ext w9 w' → Calls Tryd.prog 20 #[.agg (a0.cells Aa na ca)] w' fun e w'' => e = .returned (.int .i64 (fa)) ∧ Ext w' w'')
  have HFb := Lib.hid (fun w' hx => by have := Frames_any b0 Ab nb cb w'; rwa [hfb] at this : ∀ w', Ext w9 w' → Calls Tryd.prog 20 #[.agg (b0.cells Ab nb cb)] w' fun e w'' => e = .returned (.int .i64 (fb)) ∧ Ext w' w'')
  have HFe := Lib.hid (fun w' hx => by have := Frames_any e A n c w'; rwa [← hfe] at this : ∀ w', Ext w9 w' → Calls Tryd.prog 20 #[.agg (e.cells A n c)] w' fun e w'' => e = .returned (.int .i64 (fa + fb)) ∧ Ext w' w'')
  have HLa := Lib.hid (fun w' hx => by have := ELen_any a0 Aa na ca w' (HEn9.out.ext hx) (HEa9.out.ext hx) HSa.out.2.2 HYa.out; rwa [hla] at this : ∀ w', Ext w9 w' → Calls Tryd.prog 21 #[.agg (a0.cells Aa na ca)] w' fun e w'' => e = .returned (.int .i64 (la)) ∧ Ext w' w'')
  have HLb := Lib.hid (fun w' hx => by have := ELen_any b0 Ab nb cb w' (HEn9.out.ext hx) (HEb9.out.ext hx) HSb.out.2.2 HYb.out; rwa [hlb] at this : ∀ w', Ext w9 w' → Calls Tryd.prog 21 #[.agg (b0.cells Ab nb cb)] w' fun e w'' => e = .returned (.int .i64 (lb)) ∧ Ext w' w'')
  have HLe := Lib.hid (fun w' hx => by have := ELen_any e A n c w' (HEn9.out.ext hx) (HEe9.out.ext hx) HSe0.out.2.2 HYe.out; rwa [← hle] at this : ∀ w', Ext w9 w' → Calls Tryd.prog 21 #[.agg (e.cells A n c)] w' fun e w'' => e = .returned (.int .i64 (la + 1 + lb)) ∧ Ext w' w'')
  have HSe := Lib.hid (fun w' hx => by have := ESame_any e e Aj nj cj A n c w' (HEj9.out.ext hx) (HEe9.out.ext hx); rwa [decide_eq_true rfl] at this : ∀ w', Ext w9 w' → Calls Tryd.prog 18 #[.agg (e.cells Aj nj cj), .agg (e.cells A n c)] w' fun e w'' => e = .returned (.bool true) ∧ Ext w' w'')
  clear hfa hfb hla hlb hfe hle hfr hln
  refine wp_region_vals [.agg (a0.cells Aa na ca), .slice A2 n2 c2, .int .i64 0, .bool true, .bool true, .agg (b0.cells Ab nb cb), .slice A2 n2 c2, .int .i64 0, .bool true, .bool true, .bool true, .agg (a0.cells Aa na ca), .int .i64 (fa), .agg (b0.cells Ab nb cb), .int .i64 (fb), .int .i64 (fa + fb), .agg (e.cells A n c), .int .i64 (fa + fb), .bool true, .bool true, .bool true, .agg (a0.cells Aa na ca), .int .i64 (la), .int .i64 (la + 1), .agg (b0.cells Ab nb cb), .int .i64 (lb), .int .i64 (la + 1 + lb), .agg (e.cells A n c), .int .i64 (la + 1 + lb), .bool true, .bool true, .bool true, .int .i64 0, .bool true, .bool true, .bool true, .agg (e.cells Aj nj cj), .agg (e.cells A n c), .bool true, .bool true, .bool true] _ (by kernel_rfl) (by kernel_rfl) (by kernel_rfl) rfl rfl ?_ ?_
  · intro i o ho a w' K' hx hn hd hk
    match i, ho with
    | 0, ho =>
      simp only [List.getElem?_toArray, List.getElem?_cons_zero, List.getElem?_cons_succ, Option.some.injEq] at ho
      subst ho
      refine want_none rfl ?_
      exact wp_loadB 27 (.tmp 7) rfl _ 27 _ _ ((hn 7 rfl).trans rfl) (HBa.out.ext hx) Tryd.underlying27 rfl (by exact size_event) (hk _ rfl w' (Ext.refl _))
    | 1, ho =>
      simp only [List.getElem?_toArray, List.getElem?_cons_zero, List.getElem?_cons_succ, Option.some.injEq] at ho
      subst ho
      refine want_none rfl ?_
      exact wp_move _ _ rfl ((hn 1 rfl).trans rfl) (hk _ rfl w' (Ext.refl _))
    | 2, ho =>
      simp only [List.getElem?_toArray, List.getElem?_cons_zero, List.getElem?_cons_succ, Option.some.injEq] at ho
      subst ho
      refine want_none rfl ?_
      exact wp_call2 rfl (eval_of (hd 0 48 (.agg (a0.cells Aa na ca)) rfl rfl rfl)) (eval_of (hd 1 49 (.slice A2 n2 c2) rfl rfl rfl)) Tryd.call19 (HCa.out w' hx) (hk _ rfl)
    | 3, ho =>
      simp only [List.getElem?_toArray, List.getElem?_cons_zero, List.getElem?_cons_succ, Option.some.injEq] at ho
      subst ho
      refine want_none rfl ?_
      exact wp_bin rfl (eval_of (hd 2 50 (.int .i64 0) rfl rfl rfl)) rfl (by go_simp) (hk _ rfl w' (Ext.refl _))
    | 4, ho =>
      simp only [List.getElem?_toArray, List.getElem?_cons_zero, List.getElem?_cons_succ, Option.some.injEq] at ho
      subst ho
      refine want_none rfl ?_
      exact wp_move _ _ rfl (eval_of (hd 3 51 (.bool true) rfl rfl rfl)) (hk _ rfl w' (Ext.refl _))
    | 5, ho =>
      simp only [List.getElem?_toArray, List.getElem?_cons_zero, List.getElem?_cons_succ, Option.some.injEq] at ho
      subst ho
      refine want_yes rfl rfl (hd 4 52 (.bool true) rfl rfl rfl) rfl ?_
      exact wp_loadB 27 (.tmp 8) rfl _ 27 _ _ ((hn 8 rfl).trans rfl) (HBb.out.ext hx) Tryd.underlying27 rfl (by exact size_event) (hk _ rfl w' (Ext.refl _))
    | 6, ho =>
      simp only [List.getElem?_toArray, List.getElem?_cons_zero, List.getElem?_cons_succ, Option.some.injEq] at ho
      subst ho
      refine want_yes rfl rfl (hd 4 52 (.bool true) rfl rfl rfl) rfl ?_
      exact wp_move _ _ rfl ((hn 1 rfl).trans rfl) (hk _ rfl w' (Ext.refl _))
    | 7, ho =>
      simp only [List.getElem?_toArray, List.getElem?_cons_zero, List.getElem?_cons_succ, Option.some.injEq] at ho
      subst ho
      refine want_yes rfl rfl (hd 4 52 (.bool true) rfl rfl rfl) rfl ?_
      exact wp_call2 rfl (eval_of (hd 5 53 (.agg (b0.cells Ab nb cb)) rfl rfl rfl)) (eval_of (hd 6 54 (.slice A2 n2 c2) rfl rfl rfl)) Tryd.call19 (HCb.out w' hx) (hk _ rfl)
    | 8, ho =>
      simp only [List.getElem?_toArray, List.getElem?_cons_zero, List.getElem?_cons_succ, Option.some.injEq] at ho
      subst ho
      refine want_yes rfl rfl (hd 4 52 (.bool true) rfl rfl rfl) rfl ?_
      exact wp_bin rfl (eval_of (hd 7 55 (.int .i64 0) rfl rfl rfl)) rfl (by go_simp) (hk _ rfl w' (Ext.refl _))
    | 9, ho =>
      simp only [List.getElem?_toArray, List.getElem?_cons_zero, List.getElem?_cons_succ, Option.some.injEq] at ho
      subst ho
      refine want_none rfl ?_
      exact wp_pick _ _ _ true _ rfl (eval_of (hd 4 52 (.bool true) rfl rfl rfl)) (by exact (eval_of (hd 8 56 (.bool true) rfl rfl rfl))) (hk _ rfl w' (Ext.refl _))
    | 10, ho =>
      simp only [List.getElem?_toArray, List.getElem?_cons_zero, List.getElem?_cons_succ, Option.some.injEq] at ho
      subst ho
      refine want_none rfl ?_
      exact wp_move _ _ rfl (eval_of (hd 9 57 (.bool true) rfl rfl rfl)) (hk _ rfl w' (Ext.refl _))
    | 11, ho =>
      simp only [List.getElem?_toArray, List.getElem?_cons_zero, List.getElem?_cons_succ, Option.some.injEq] at ho
      subst ho
      refine want_yes rfl rfl (hd 10 58 (.bool true) rfl rfl rfl) rfl ?_
      exact wp_loadB 27 (.tmp 7) rfl _ 27 _ _ ((hn 7 rfl).trans rfl) (HBa.out.ext hx) Tryd.underlying27 rfl (by exact size_event) (hk _ rfl w' (Ext.refl _))
    | 12, ho =>
      simp only [List.getElem?_toArray, List.getElem?_cons_zero, List.getElem?_cons_succ, Option.some.injEq] at ho
      subst ho
      refine want_yes rfl rfl (hd 10 58 (.bool true) rfl rfl rfl) rfl ?_
      exact wp_call1s rfl (eval_of (hd 11 59 (.agg (a0.cells Aa na ca)) rfl rfl rfl)) Tryd.call20 (HFa.out w' hx) (hk _ rfl)
    | 13, ho =>
      simp only [List.getElem?_toArray, List.getElem?_cons_zero, List.getElem?_cons_succ, Option.some.injEq] at ho
      subst ho
      refine want_yes rfl rfl (hd 10 58 (.bool true) rfl rfl rfl) rfl ?_
      exact wp_loadB 27 (.tmp 8) rfl _ 27 _ _ ((hn 8 rfl).trans rfl) (HBb.out.ext hx) Tryd.underlying27 rfl (by exact size_event) (hk _ rfl w' (Ext.refl _))
    | 14, ho =>
      simp only [List.getElem?_toArray, List.getElem?_cons_zero, List.getElem?_cons_succ, Option.some.injEq] at ho
      subst ho
      refine want_yes rfl rfl (hd 10 58 (.bool true) rfl rfl rfl) rfl ?_
      exact wp_call1s rfl (eval_of (hd 13 61 (.agg (b0.cells Ab nb cb)) rfl rfl rfl)) Tryd.call20 (HFb.out w' hx) (hk _ rfl)
    | 15, ho =>
      simp only [List.getElem?_toArray, List.getElem?_cons_zero, List.getElem?_cons_succ, Option.some.injEq] at ho
      subst ho
      refine want_yes rfl rfl (hd 10 58 (.bool true) rfl rfl rfl) rfl ?_
      exact wp_bin rfl (eval_of (hd 12 60 (.int .i64 (fa)) rfl rfl rfl)) (eval_of (hd 14 62 (.int .i64 (fb)) rfl rfl rfl)) (by go_simp; exact wrap_i64 (by omega) (by omega)) (hk _ rfl w' (Ext.refl _))
    | 16, ho =>
      simp only [List.getElem?_toArray, List.getElem?_cons_zero, List.getElem?_cons_succ, Option.some.injEq] at ho
      subst ho
      refine want_yes rfl rfl (hd 10 58 (.bool true) rfl rfl rfl) rfl ?_
      exact wp_loadB 27 (.tmp 3) rfl _ 27 _ _ ((hn 3 rfl).trans rfl) (HBe.out.ext hx) Tryd.underlying27 rfl (by exact size_event) (hk _ rfl w' (Ext.refl _))
    | 17, ho =>
      simp only [List.getElem?_toArray, List.getElem?_cons_zero, List.getElem?_cons_succ, Option.some.injEq] at ho
      subst ho
      refine want_yes rfl rfl (hd 10 58 (.bool true) rfl rfl rfl) rfl ?_
      exact wp_call1s rfl (eval_of (hd 16 64 (.agg (e.cells A n c)) rfl rfl rfl)) Tryd.call20 (HFe.out w' hx) (hk _ rfl)
    | 18, ho =>
      simp only [List.getElem?_toArray, List.getElem?_cons_zero, List.getElem?_cons_succ, Option.some.injEq] at ho
      subst ho
      refine want_yes rfl rfl (hd 10 58 (.bool true) rfl rfl rfl) rfl ?_
      exact wp_bin rfl (eval_of (hd 15 63 (.int .i64 (fa + fb)) rfl rfl rfl)) (eval_of (hd 17 65 (.int .i64 (fa + fb)) rfl rfl rfl)) (by go_simp) (hk _ rfl w' (Ext.refl _))
    | 19, ho =>
      simp only [List.getElem?_toArray, List.getElem?_cons_zero, List.getElem?_cons_succ, Option.some.injEq] at ho
      subst ho
      refine want_none rfl ?_
      exact wp_pick _ _ _ true _ rfl (eval_of (hd 10 58 (.bool true) rfl rfl rfl)) (by exact (eval_of (hd 18 66 (.bool true) rfl rfl rfl))) (hk _ rfl w' (Ext.refl _))
    | 20, ho =>
      simp only [List.getElem?_toArray, List.getElem?_cons_zero, List.getElem?_cons_succ, Option.some.injEq] at ho
      subst ho
      refine want_none rfl ?_
      exact wp_move _ _ rfl (eval_of (hd 19 67 (.bool true) rfl rfl rfl)) (hk _ rfl w' (Ext.refl _))
    | 21, ho =>
      simp only [List.getElem?_toArray, List.getElem?_cons_zero, List.getElem?_cons_succ, Option.some.injEq] at ho
      subst ho
      refine want_yes rfl rfl (hd 20 68 (.bool true) rfl rfl rfl) rfl ?_
      exact wp_loadB 27 (.tmp 7) rfl _ 27 _ _ ((hn 7 rfl).trans rfl) (HBa.out.ext hx) Tryd.underlying27 rfl (by exact size_event) (hk _ rfl w' (Ext.refl _))
    | 22, ho =>
      simp only [List.getElem?_toArray, List.getElem?_cons_zero, List.getElem?_cons_succ, Option.some.injEq] at ho
      subst ho
      refine want_yes rfl rfl (hd 20 68 (.bool true) rfl rfl rfl) rfl ?_
      exact wp_call1s rfl (eval_of (hd 21 69 (.agg (a0.cells Aa na ca)) rfl rfl rfl)) Tryd.call21 (HLa.out w' hx) (hk _ rfl)
    | 23, ho =>
      simp only [List.getElem?_toArray, List.getElem?_cons_zero, List.getElem?_cons_succ, Option.some.injEq] at ho
      subst ho
      refine want_yes rfl rfl (hd 20 68 (.bool true) rfl rfl rfl) rfl ?_
      exact wp_bin rfl (eval_of (hd 22 70 (.int .i64 (la)) rfl rfl rfl)) rfl (by go_simp; exact wrap_i64 (by omega) (by omega)) (hk _ rfl w' (Ext.refl _))
    | 24, ho =>
      simp only [List.getElem?_toArray, List.getElem?_cons_zero, List.getElem?_cons_succ, Option.some.injEq] at ho
      subst ho
      refine want_yes rfl rfl (hd 20 68 (.bool true) rfl rfl rfl) rfl ?_
      exact wp_loadB 27 (.tmp 8) rfl _ 27 _ _ ((hn 8 rfl).trans rfl) (HBb.out.ext hx) Tryd.underlying27 rfl (by exact size_event) (hk _ rfl w' (Ext.refl _))
    | 25, ho =>
      simp only [List.getElem?_toArray, List.getElem?_cons_zero, List.getElem?_cons_succ, Option.some.injEq] at ho
      subst ho
      refine want_yes rfl rfl (hd 20 68 (.bool true) rfl rfl rfl) rfl ?_
      exact wp_call1s rfl (eval_of (hd 24 72 (.agg (b0.cells Ab nb cb)) rfl rfl rfl)) Tryd.call21 (HLb.out w' hx) (hk _ rfl)
    | 26, ho =>
      simp only [List.getElem?_toArray, List.getElem?_cons_zero, List.getElem?_cons_succ, Option.some.injEq] at ho
      subst ho
      refine want_yes rfl rfl (hd 20 68 (.bool true) rfl rfl rfl) rfl ?_
      exact wp_bin rfl (eval_of (hd 23 71 (.int .i64 (la + 1)) rfl rfl rfl)) (eval_of (hd 25 73 (.int .i64 (lb)) rfl rfl rfl)) (by go_simp; exact wrap_i64 (by omega) (by omega)) (hk _ rfl w' (Ext.refl _))
    | 27, ho =>
      simp only [List.getElem?_toArray, List.getElem?_cons_zero, List.getElem?_cons_succ, Option.some.injEq] at ho
      subst ho
      refine want_yes rfl rfl (hd 20 68 (.bool true) rfl rfl rfl) rfl ?_
      exact wp_loadB 27 (.tmp 3) rfl _ 27 _ _ ((hn 3 rfl).trans rfl) (HBe.out.ext hx) Tryd.underlying27 rfl (by exact size_event) (hk _ rfl w' (Ext.refl _))
    | 28, ho =>
      simp only [List.getElem?_toArray, List.getElem?_cons_zero, List.getElem?_cons_succ, Option.some.injEq] at ho
      subst ho
      refine want_yes rfl rfl (hd 20 68 (.bool true) rfl rfl rfl) rfl ?_
      exact wp_call1s rfl (eval_of (hd 27 75 (.agg (e.cells A n c)) rfl rfl rfl)) Tryd.call21 (HLe.out w' hx) (hk _ rfl)
    | 29, ho =>
      simp only [List.getElem?_toArray, List.getElem?_cons_zero, List.getElem?_cons_succ, Option.some.injEq] at ho
      subst ho
      refine want_yes rfl rfl (hd 20 68 (.bool true) rfl rfl rfl) rfl ?_
      exact wp_bin rfl (eval_of (hd 26 74 (.int .i64 (la + 1 + lb)) rfl rfl rfl)) (eval_of (hd 28 76 (.int .i64 (la + 1 + lb)) rfl rfl rfl)) (by go_simp) (hk _ rfl w' (Ext.refl _))
    | 30, ho =>
      simp only [List.getElem?_toArray, List.getElem?_cons_zero, List.getElem?_cons_succ, Option.some.injEq] at ho
      subst ho
      refine want_none rfl ?_
      exact wp_pick _ _ _ true _ rfl (eval_of (hd 20 68 (.bool true) rfl rfl rfl)) (by exact (eval_of (hd 29 77 (.bool true) rfl rfl rfl))) (hk _ rfl w' (Ext.refl _))
    | 31, ho =>
      simp only [List.getElem?_toArray, List.getElem?_cons_zero, List.getElem?_cons_succ, Option.some.injEq] at ho
      subst ho
      refine want_none rfl ?_
      exact wp_move _ _ rfl (eval_of (hd 30 78 (.bool true) rfl rfl rfl)) (hk _ rfl w' (Ext.refl _))
    | 32, ho =>
      simp only [List.getElem?_toArray, List.getElem?_cons_zero, List.getElem?_cons_succ, Option.some.injEq] at ho
      subst ho
      refine want_yes rfl rfl (hd 31 79 (.bool true) rfl rfl rfl) rfl ?_
      exact wp_move _ _ rfl ((hn 11 rfl).trans rfl) (hk _ rfl w' (Ext.refl _))
    | 33, ho =>
      simp only [List.getElem?_toArray, List.getElem?_cons_zero, List.getElem?_cons_succ, Option.some.injEq] at ho
      subst ho
      refine want_yes rfl rfl (hd 31 79 (.bool true) rfl rfl rfl) rfl ?_
      exact wp_bin rfl (eval_of (hd 32 80 (.int .i64 0) rfl rfl rfl)) rfl (by go_simp) (hk _ rfl w' (Ext.refl _))
    | 34, ho =>
      simp only [List.getElem?_toArray, List.getElem?_cons_zero, List.getElem?_cons_succ, Option.some.injEq] at ho
      subst ho
      refine want_none rfl ?_
      exact wp_pick _ _ _ true _ rfl (eval_of (hd 31 79 (.bool true) rfl rfl rfl)) (by exact (eval_of (hd 33 81 (.bool true) rfl rfl rfl))) (hk _ rfl w' (Ext.refl _))
    | 35, ho =>
      simp only [List.getElem?_toArray, List.getElem?_cons_zero, List.getElem?_cons_succ, Option.some.injEq] at ho
      subst ho
      refine want_none rfl ?_
      exact wp_move _ _ rfl (eval_of (hd 34 82 (.bool true) rfl rfl rfl)) (hk _ rfl w' (Ext.refl _))
    | 36, ho =>
      simp only [List.getElem?_toArray, List.getElem?_cons_zero, List.getElem?_cons_succ, Option.some.injEq] at ho
      subst ho
      refine want_yes rfl rfl (hd 35 83 (.bool true) rfl rfl rfl) rfl ?_
      exact wp_loadB 27 (.tmp 10) rfl _ 27 _ _ ((hn 10 rfl).trans rfl) (HBj.out.ext hx) Tryd.underlying27 rfl (by exact size_event) (hk _ rfl w' (Ext.refl _))
    | 37, ho =>
      simp only [List.getElem?_toArray, List.getElem?_cons_zero, List.getElem?_cons_succ, Option.some.injEq] at ho
      subst ho
      refine want_yes rfl rfl (hd 35 83 (.bool true) rfl rfl rfl) rfl ?_
      exact wp_loadB 27 (.tmp 3) rfl _ 27 _ _ ((hn 3 rfl).trans rfl) (HBe.out.ext hx) Tryd.underlying27 rfl (by exact size_event) (hk _ rfl w' (Ext.refl _))
    | 38, ho =>
      simp only [List.getElem?_toArray, List.getElem?_cons_zero, List.getElem?_cons_succ, Option.some.injEq] at ho
      subst ho
      refine want_yes rfl rfl (hd 35 83 (.bool true) rfl rfl rfl) rfl ?_
      exact wp_call2 rfl (eval_of (hd 36 84 (.agg (e.cells Aj nj cj)) rfl rfl rfl)) (eval_of (hd 37 85 (.agg (e.cells A n c)) rfl rfl rfl)) Tryd.call18 (HSe.out w' hx) (hk _ rfl)
    | 39, ho =>
      simp only [List.getElem?_toArray, List.getElem?_cons_zero, List.getElem?_cons_succ, Option.some.injEq] at ho
      subst ho
      refine want_none rfl ?_
      exact wp_pick _ _ _ true _ rfl (eval_of (hd 35 83 (.bool true) rfl rfl rfl)) (by exact (eval_of (hd 38 86 (.bool true) rfl rfl rfl))) (hk _ rfl w' (Ext.refl _))
    | 40, ho =>
      simp only [List.getElem?_toArray, List.getElem?_cons_zero, List.getElem?_cons_succ, Option.some.injEq] at ho
      subst ho
      refine want_none rfl ?_
      exact wp_assignx _ _ rfl (eval_of (hd 39 87 (.bool true) rfl rfl rfl)) (hk _ rfl w' (Ext.refl _))
    | i + 41, ho => simp at ho
  intro w10 hx10
  rename_i hK
  refine hK _ _ ?_
  clear hK
  simp only [Act.put, List.zip_cons_cons, List.map_cons, List.map_nil, Option.getD_some, List.zip_nil_right, List.foldl_cons, List.foldl_nil, List.setIfInBounds_toArray, List.set_cons_zero, List.set_cons_succ]
  have HX10 := Lib.hid (HX9.out.trans hx10)
  clear hx10
  go_wp2_with fail
  go_ret
  exact ⟨rfl, HX10.out⟩

theorem EventReturns_any (e : Ev) (A : Option Addr) (n c : Nat) (A2 : Option Addr) (n2 c2 : Nat) (regs : List Reg) (frame row id : Int) (w : World) (hE : Env w) (he : EvAt w e A n c) (hsm : EvSmall e) (hby : e.bytes ≤ 1099511627776) (hr : RegsAt w A2 n2 regs) (hr2 : n2 ≤ 9223372036854775807) (hrs : RegsSmall regs) :
    Calls Tryd.prog 7 #[.agg (e.cells A n c), .slice A2 n2 c2, .agg #[.int .i64 frame, .int .i64 row, .int .i64 id]] w fun en w' => en = .returned (.bool true) ∧ Ext w w' := by
  by_cases hk : e.splitErr frame row id = 0
  · by_cases hk2 : e.err regs = 0
    · exact returns_valid e A n c A2 n2 c2 regs frame row id w hE he hsm hby hr hr2 hrs hk hk2
    · exact returns_invalid e A n c A2 n2 c2 regs frame row id w hE he hsm hr hr2 hrs hk hk2
  · exact returns_bad e A n c A2 n2 c2 frame row id w hE he hk
end Go.Proofs.YtcgflkmkdpgchaaDoor
