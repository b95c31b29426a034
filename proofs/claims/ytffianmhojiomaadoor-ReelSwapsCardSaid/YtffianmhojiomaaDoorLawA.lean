/- The walks of captionerlaw44.Of, Ref and of captionerlaw45.small; the example of awake, plainly. -/
import Derived.Test.YtffianmhojiomaaDoorSwapE
namespace Go.Proofs.YtffianmhojiomaaDoor
set_option linter.unusedVariables false
set_option linter.unusedSimpArgs false
open Go.RowKit

set_option maxRecDepth 100000 in
set_option maxHeartbeats 2000000 in
theorem Of_any (e : Edl) (A : Option Addr) (n c : Nat) (w : World) : Calls Tryd.prog 12 #[.agg (e.cells A n c)] w fun en w' => en = .returned (.agg (e.cells A n c)) ∧ Ext w w' := by
  have HX := Lib.hid (((Ext.refl w).alloc (.cells (e.cells A n c) 25)).alloc (.cells edlZero 32))
  have HB1 := Lib.hid (Blk.new' (w := w.alloc (.cells (e.cells A n c) 25)) (g := w.heap.size + 1) (t := 32) (cs := edlZero) (by simp))
  unfold Edl.cells edlZero at *
  go_enter Tryd.func12, Tryd.ntmps12
  go_wp2_with (refine wpList_storeB rfl 32 (.tmp 2) (.tmp 11) rfl (w.heap.size + 1) 32 _ _ (by exact rfl) (by exact rfl) (by exact HB1.out) (by exact rfl) (by exact size_list) (by simp [Value.oneCell']) ?_)
  refine bodyPost_ret (v := .agg #[.string e.title, .int .u8 e.rate, .bool e.drop, .slice A n c]) ?_ rfl ⟨rfl, ?_⟩
  · exact results_B (P := Tryd.prog) Tryd.results12 (g := w.heap.size + 1) rfl (by exact HB1.out.put _) Tryd.underlying32 rfl size_list
  · exact HX.out.put (by omega) _ _
set_option maxRecDepth 100000 in
set_option maxHeartbeats 2000000 in
theorem Ref_any (e : Edl) (A : Option Addr) (n c : Nat) (w : World) : Calls Tryd.prog 17 #[.agg (e.cells A n c)] w fun en w' => en = .returned (.agg (e.cells A n c)) ∧ Ext w w' := by
  have HX := Lib.hid (((Ext.refl w).alloc (.cells (e.cells A n c) 32)).alloc (.cells edlZero 25))
  have HB1 := Lib.hid (Blk.new' (w := w.alloc (.cells (e.cells A n c) 32)) (g := w.heap.size + 1) (t := 25) (cs := edlZero) (by simp))
  unfold Edl.cells edlZero at *
  go_enter Tryd.func17, Tryd.ntmps17
  go_wp2_with (refine wpList_storeB rfl 25 (.tmp 2) (.tmp 11) rfl (w.heap.size + 1) 25 _ _ (by exact rfl) (by exact rfl) (by exact HB1.out) (by exact rfl) (by exact rsize_list) (by simp [Value.oneCell']) ?_)
  refine bodyPost_ret (v := .agg #[.string e.title, .int .u8 e.rate, .bool e.drop, .slice A n c]) ?_ rfl ⟨rfl, ?_⟩
  · exact results_B (P := Tryd.prog) Tryd.results17 (g := w.heap.size + 1) rfl (by exact HB1.out.put _) Tryd.underlying25 rfl rsize_list
  · exact HX.out.put (by omega) _ _
def smallB (e : Edl) (n : Nat) : Bool := decide (n ≤ 128 ∧ e.title.size ≤ 800)
set_option maxRecDepth 100000 in
set_option maxHeartbeats 2000000 in
theorem small_any (e : Edl) (A : Option Addr) (n c : Nat) (w : World) : Calls Tryd.prog 10 #[.agg (e.cells A n c)] w fun en w' => en = .returned (.bool (smallB e n)) ∧ Ext w w' := by
  have HX := Lib.hid ((Ext.refl w).alloc (.cells (e.cells A n c) 25))
  have HF : Hid (smallB e n = decide (n ≤ 128 ∧ e.title.size ≤ 800)) := rfl
  unfold Edl.cells at *
  by_cases h1 : n ≤ 128
  · have h1i : (n : Int) ≤ 128 := by omega
    by_cases h2 : e.title.size ≤ 800
    · have h2i : (e.title.size : Int) ≤ 800 := by omega
      have HG : Hid (smallB e n = true) := HF.out.trans (decide_eq_true ⟨h1, h2⟩)
      go_enter Tryd.func10, Tryd.ntmps10
      go_wp2_with fail
      go_ret
      exact ⟨by rw [HG.out]; first | rfl | (simp; done) | (simp; omega), HX.out⟩
    · have h2i : ¬ (e.title.size : Int) ≤ 800 := by omega
      have HG : Hid (smallB e n = false) := HF.out.trans (decide_eq_false (fun h => h2 h.2))
      go_enter Tryd.func10, Tryd.ntmps10
      go_wp2_with fail
      go_ret
      exact ⟨by rw [HG.out]; first | rfl | (simp; done) | (simp; omega), HX.out⟩
  · have h1i : ¬ (n : Int) ≤ 128 := by omega
    have HG : Hid (smallB e n = false) := HF.out.trans (decide_eq_false (fun h => h1 h.1))
    go_enter Tryd.func10, Tryd.ntmps10
    go_wp2_with fail
    go_ret
    exact ⟨by rw [HG.out]; first | rfl | (simp; done) | (simp; omega), HX.out⟩

/-- the example -/
def cutA : Cut := ⟨1, ⟨#[65]⟩, 250, 0, 100, 1, 1⟩
def cutB : Cut := ⟨2, ⟨#[66]⟩, 0, 100, 110, 1, 2⟩
def e0 : Edl := ⟨⟨#[]⟩, 3, false, [cutA, cutB]⟩
theorem vld_nil : vld ⟨#[]⟩ = true := by rw [vld_runes, runes_end _ _ (by decide)]; rfl
theorem e0_cnt : cnt e0.names = 2 := (cnt_eq (l := [[65], [66]]) (by decide) (fun x => by rfl)).symm
theorem e0_ok : edlErr e0 = 0 := edl_ok vld_nil (by decide) (by decide) (by decide) (by decide +kernel) (by rw [e0_cnt]; decide)
theorem e0_99 : atE e0 99 = (⟨#[65]⟩, 349, true) := atE_some (c := cutA) e0_ok (by decide +kernel)
theorem e0_109 : atE e0 109 = (⟨#[66]⟩, 4, true) := atE_some (c := cutB) e0_ok (by decide +kernel)
theorem e0_110 : atE e0 110 = (⟨#[]⟩, 0, false) := atE_none e0_ok (by decide +kernel)
theorem e0_swap : swapPre e0 ⟨#[65]⟩ ⟨#[66]⟩ = 1 := pre_len (n := 2) rfl e0_ok (by decide +kernel) (by decide +kernel) (by decide +kernel) (by decide +kernel)
theorem e0_edlok : EdlOk e0 := ⟨by decide, by decide, by decide, fun c hc => by
  simp only [e0, List.mem_cons, List.not_mem_nil, or_false] at hc
  rcases hc with rfl | rfl <;> (unfold Cut.Fits I64; decide)⟩
end Go.Proofs.YtffianmhojiomaaDoor
