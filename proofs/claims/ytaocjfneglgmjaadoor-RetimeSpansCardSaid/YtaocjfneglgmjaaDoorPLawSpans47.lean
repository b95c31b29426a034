/- The walk of the law RetimeSpans. -/
import Derived.Test.YtaocjfneglgmjaaDoorPk14
namespace Go.Proofs.YtaocjfneglgmjaaDoor
set_option linter.unusedVariables false
set_option linter.unusedSimpArgs false
open Go.RowKit

set_option maxRecDepth 100000 in
set_option maxHeartbeats 4000000 in
theorem RetimeSpans_any (a b i o m : Int) (w : World) (hE : Env w) (h0 : 0 ≤ a) (h1 : a ≤ 255) (g0 : 0 ≤ b) (g1 : b ≤ 255) :
    Calls Tryd.prog 3 #[.agg #[.int .u8 a, .int .u8 b], .agg #[.int .i64 i, .int .i64 o], .int .u8 m] w fun en w' => en = .returned (.bool true) ∧ Ext w w' := by
  have HX0 := Lib.hid (((Ext.refl w).alloc (.cells #[.int .u8 a, .int .u8 b] 23)).alloc (.cells #[.int .i64 i, .int .i64 o] 25))
  have HB0 := Lib.hid ((Blk.new w 23 #[.int .u8 a, .int .u8 b]).alloc (.cells #[.int .i64 i, .int .i64 o] 25))
  have HC0 := Lib.hid (Blk.new' (w := w.alloc (.cells #[.int .u8 a, .int .u8 b] 23)) (g := w.heap.size + 1) (t := 25) (cs := #[.int .i64 i, .int .i64 o]) (by simp))
  have HEn := Lib.hid hE
  have HP := Lib.hid (fun w => PSpan_any a b i o m w h0 h1 g0 g1)
  have HR := Lib.hid (fun w => RSpan_any47 a b i o m w h0 h1 g0 g1)
  unfold tupS at HP HR
  generalize spanT a b i o m = sp at *
  obtain ⟨⟨p, q⟩, er⟩ := sp
  dsimp only at HP HR
  clear hE
  go_enter Tryd.func3, Tryd.ntmps3
  go_wp2_with fail
  refine (awake47_any _ (HEn.out.ext HX0.out)).mono ?_
  rintro en w1 ⟨rfl, hx1⟩
  have HX1 := Lib.hid (HX0.out.trans hx1)
  have HB1 := Lib.hid (HB0.out.ext hx1)
  have HC1 := Lib.hid (HC0.out.ext hx1)
  clear hx1 HX0 HB0 HC0
  have hb := fun k => HB1.out.cell k
  have hc := fun k => HC1.out.cell k
  go_wp2_with fail
  refine (HP.out _).mono ?_
  rintro en w2 ⟨rfl, hx2⟩
  have HX2 := Lib.hid ((HX1.out.trans hx2).alloc (.cells #[.int .i64 p, .int .i64 q] 25))
  have hb2 : ∀ obj k, (w2.alloc obj).cell? ⟨w.heap.size, k, none⟩ = #[.int .u8 a, .int .u8 b][k]? := fun obj k => ((HB1.out.ext hx2).alloc obj).cell k
  have hc2 : ∀ obj k, (w2.alloc obj).cell? ⟨w.heap.size + 1, k, none⟩ = #[.int .i64 i, .int .i64 o][k]? := fun obj k => ((HC1.out.ext hx2).alloc obj).cell k
  have HV2 := Lib.hid (Blk.new w2 25 #[.int .i64 p, .int .i64 q])
  clear hb hc hx2 HX1 HB1 HC1
  go_wp2_with fail
  refine (HR.out _).mono ?_
  rintro en w3 ⟨rfl, hx3⟩
  have HX3 := Lib.hid ((HX2.out.trans hx3).alloc (.cells #[.int .i64 p, .int .i64 q] 25))
  have hv3 : ∀ obj k, (w3.alloc obj).cell? ⟨w2.heap.size, k, none⟩ = #[.int .i64 p, .int .i64 q][k]? := fun obj k => ((HV2.out.ext hx3).alloc obj).cell k
  have hq := fun w => eql_span p q p q w
  simp at hq
  clear hb2 hc2 hx3 HX2
  go_wp2_with fail
  go_ret
  exact ⟨rfl, HX3.out⟩
end Go.Proofs.YtaocjfneglgmjaaDoor
