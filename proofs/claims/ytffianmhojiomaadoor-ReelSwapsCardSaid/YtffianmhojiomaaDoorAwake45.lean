/- The walk of captionerlaw45.awake. -/
import Derived.Test.YtffianmhojiomaaDoorLawA
namespace Go.Proofs.YtffianmhojiomaaDoor
set_option linter.unusedVariables false
set_option linter.unusedSimpArgs false
open Go.RowKit

def cuts14 : Array Value := #[.int .i64 1, .string ⟨#[65]⟩, .int .i64 250, .int .i64 0, .int .i64 100, .int .i64 1, .int .i64 1, .int .i64 2, .string ⟨#[66]⟩, .int .i64 0, .int .i64 100, .int .i64 110, .int .i64 1, .int .i64 2]
theorem e0_at (w : World) : CutsAt (w.alloc (.cells cuts14 67)) (some ⟨w.heap.size, 0, none⟩) 2 e0.cuts := by
  have hB := Blk.new w 67 cuts14
  refine ⟨rfl, fun _ => ⟨w.heap.size, 0, rfl, fun i x hx => ?_⟩⟩
  have hc := fun o => hB.cell o
  match i, hx with
  | 0, hx =>
    cases hx
    intro j u hu
    rw [hc]
    match j, hu with
    | 0, hu => exact hu
    | 1, hu => exact hu
    | 2, hu => exact hu
    | 3, hu => exact hu
    | 4, hu => exact hu
    | 5, hu => exact hu
    | 6, hu => exact hu
    | j + 7, hu => simp [Cut.vals] at hu
  | 1, hx =>
    cases hx
    intro j u hu
    rw [hc]
    match j, hu with
    | 0, hu => exact hu
    | 1, hu => exact hu
    | 2, hu => exact hu
    | 3, hu => exact hu
    | 4, hu => exact hu
    | 5, hu => exact hu
    | 6, hu => exact hu
    | j + 7, hu => simp [Cut.vals] at hu
  | i + 2, hx => simp [e0] at hx
set_option maxRecDepth 100000 in
set_option maxHeartbeats 4000000 in
theorem awake_any (w : World) (hE : Env w) : Calls Tryd.prog 9 #[] w fun en w' => en = .returned (.bool true) ∧ Ext w w' := by
  have HX0 := Lib.hid ((Ext.refl w).alloc (.cells cuts14 67))
  have HC := Lib.hid (e0_at w)
  have HE := Lib.hid hE
  clear hE
  have HAt := Lib.hid (fun t w' (hx : Ext (w.alloc (.cells cuts14 67)) w') => At_any e0 (some ⟨w.heap.size, 0, none⟩) 2 2 t w' (HE.out.ext (HX0.out.trans hx)) (HC.out.ext hx) (by decide) e0_edlok)
  have HSw := Lib.hid (fun w' (hx : Ext (w.alloc (.cells cuts14 67)) w') => Swap_pre e0 (some ⟨w.heap.size, 0, none⟩) 2 2 ⟨#[65]⟩ ⟨#[66]⟩ w' (HE.out.ext (HX0.out.trans hx)) (HC.out.ext hx) (by decide) e0_edlok (by rw [e0_swap]; decide))
  have HB1 := Lib.hid (Blk.new' (w := w.alloc (.cells cuts14 67)) (g := w.heap.size + 1) (t := 32) (cs := edlZero) (by simp))
  have HX1 := Lib.hid ((Ext.refl (w.alloc (.cells cuts14 67))).alloc (.cells edlZero 32))
  have A99 := Lib.hid e0_99
  have A109 := Lib.hid e0_109
  have A110 := Lib.hid e0_110
  have HSp := Lib.hid e0_swap
  unfold atVal at HAt
  unfold edlZero at HB1 HX1 HSw
  unfold cuts14 at *
  go_enter Tryd.func9, Tryd.ntmps9
  go_wp2_with (first | (refine wpList_storeB rfl 32 (.tmp 1) (.tmp 17) rfl (w.heap.size + 1) 32 _ _ (by exact rfl) (by exact rfl) (by exact HB1.out) (by exact rfl) (by exact size_list) (by simp [Value.oneCell']) ?_) | (refine wpList_loadB rfl 32 (.tmp 1) rfl (w.heap.size + 1) 32 _ _ (by exact rfl) (by exact HB1.out.put _) Tryd.underlying32 rfl (by exact size_list) ?_))
  have HX2 := Lib.hid (HX1.out.put (g := w.heap.size + 1) (by simp) 32 #[.string ⟨#[]⟩, .int .u8 3, .bool false, .slice (some ⟨w.heap.size, 0, none⟩) 2 2])
  have HB2 := Lib.hid (HB1.out.put #[.string ⟨#[]⟩, .int .u8 3, .bool false, .slice (some ⟨w.heap.size, 0, none⟩) 2 2])
  refine (HAt.out 99 _ HX2.out).mono ?_
  rw [A99.out]
  rintro en w3 ⟨rfl, hx3⟩
  have HX3 := Lib.hid (HX2.out.trans hx3)
  have HB3 := Lib.hid (HB2.out.ext hx3)
  clear hx3 HX2 HB2 HB1 HX1
  have HZ3 := Lib.hid (Blk.new w3 29 #[.string ⟨#[]⟩, .int .i64 0])
  go_wp2_with (first | (refine wpList_storeB rfl 29 (.tmp 2) (.tmp 21) rfl w3.heap.size 29 _ _ (by exact rfl) (by exact rfl) (by exact HZ3.out) (by exact rfl) (by exact size_src) (by simp [Value.oneCell']) ?_) | (refine wpList_loadB rfl 32 (.tmp 1) rfl (w.heap.size + 1) 32 _ _ (by exact rfl) (by exact (HB3.out.alloc _).put_other (by have := HB3.out.lt; omega) _) Tryd.underlying32 rfl (by exact size_list) ?_))
  have hg3 := HB3.out.lt
  have HX4 := Lib.hid ((HX3.out.alloc (.cells #[.string ⟨#[]⟩, .int .i64 0] 29)).put (g := w3.heap.size) HX3.out.size 29 #[.string ⟨#[65]⟩, .int .i64 349])
  have HB4 := Lib.hid ((HB3.out.alloc (.cells #[.string ⟨#[]⟩, .int .i64 0] 29)).put_other (g' := w3.heap.size) (t' := 29) (by omega) #[.string ⟨#[65]⟩, .int .i64 349])
  have HS4 := Lib.hid (HZ3.out.put #[.string ⟨#[65]⟩, .int .i64 349])
  refine (HAt.out 109 _ HX4.out).mono ?_
  rw [A109.out]
  rintro en w5 ⟨rfl, hx5⟩
  have HX5 := Lib.hid (HX4.out.trans hx5)
  have HB5 := Lib.hid (HB4.out.ext hx5)
  have HS5 := Lib.hid (HS4.out.ext hx5)
  clear hx5 HX4 HB4 HS4 HX3 HB3 HZ3
  have hg5 := HB5.out.lt
  have hg5' := HS5.out.lt
  have HZ5 := Lib.hid (Blk.new w5 29 #[.string ⟨#[]⟩, .int .i64 0])
  go_wp2_with (first | (refine wpList_storeB rfl 29 (.tmp 4) (.tmp 26) rfl w5.heap.size 29 _ _ (by exact rfl) (by exact rfl) (by exact HZ5.out) (by exact rfl) (by exact size_src) (by simp [Value.oneCell']) ?_) | (refine wpList_loadB rfl 32 (.tmp 1) rfl (w.heap.size + 1) 32 _ _ (by exact rfl) (by exact (HB5.out.alloc _).put_other (by omega) _) Tryd.underlying32 rfl (by exact size_list) ?_))
  have HX6 := Lib.hid ((HX5.out.alloc (.cells #[.string ⟨#[]⟩, .int .i64 0] 29)).put (g := w5.heap.size) HX5.out.size 29 #[.string ⟨#[66]⟩, .int .i64 4])
  have HB6 := Lib.hid ((HB5.out.alloc (.cells #[.string ⟨#[]⟩, .int .i64 0] 29)).put_other (g' := w5.heap.size) (t' := 29) (by omega) #[.string ⟨#[66]⟩, .int .i64 4])
  have HS6 := Lib.hid ((HS5.out.alloc (.cells #[.string ⟨#[]⟩, .int .i64 0] 29)).put_other (g' := w5.heap.size) (t' := 29) (by omega) #[.string ⟨#[66]⟩, .int .i64 4])
  have HT6 := Lib.hid (HZ5.out.put #[.string ⟨#[66]⟩, .int .i64 4])
  refine (HAt.out 110 _ HX6.out).mono ?_
  rw [A110.out]
  rintro en w7 ⟨rfl, hx7⟩
  have HX7 := Lib.hid (HX6.out.trans hx7)
  have HB7 := Lib.hid (HB6.out.ext hx7)
  have HS7 := Lib.hid (HS6.out.ext hx7)
  have HT7 := Lib.hid (HT6.out.ext hx7)
  clear hx7 HX6 HB6 HS6 HT6 HX5 HB5 HS5 HZ5
  have hg7 := HB7.out.lt
  have hg7' := HS7.out.lt
  have hg7'' := HT7.out.lt
  have HZ7 := Lib.hid (Blk.new w7 29 #[.string ⟨#[]⟩, .int .i64 0])
  go_wp2_with (first | (refine wpList_storeB rfl 29 (.tmp 6) (.tmp 31) rfl w7.heap.size 29 _ _ (by exact rfl) (by exact rfl) (by exact HZ7.out) (by exact rfl) (by exact size_src) (by simp [Value.oneCell']) ?_) | (refine wpList_loadB rfl 32 (.tmp 1) rfl (w.heap.size + 1) 32 _ _ (by exact rfl) (by exact (HB7.out.alloc _).put_other (by omega) _) Tryd.underlying32 rfl (by exact size_list) ?_))
  have HX8 := Lib.hid ((HX7.out.alloc (.cells #[.string ⟨#[]⟩, .int .i64 0] 29)).put (g := w7.heap.size) HX7.out.size 29 #[.string ⟨#[]⟩, .int .i64 0])
  have HS8 := Lib.hid ((HS7.out.alloc (.cells #[.string ⟨#[]⟩, .int .i64 0] 29)).put_other (g' := w7.heap.size) (t' := 29) (by omega) #[.string ⟨#[]⟩, .int .i64 0])
  have HT8 := Lib.hid ((HT7.out.alloc (.cells #[.string ⟨#[]⟩, .int .i64 0] 29)).put_other (g' := w7.heap.size) (t' := 29) (by omega) #[.string ⟨#[]⟩, .int .i64 0])
  refine (HSw.out _ HX8.out).mono ?_
  rw [HSp.out]
  rintro en w9 ⟨rfl, hx9⟩
  have HX9 := Lib.hid (HX8.out.trans hx9)
  have HS9 := Lib.hid (HS8.out.ext hx9)
  have HT9 := Lib.hid (HT8.out.ext hx9)
  clear hx9 HX8 HS8 HT8 HX7 HB7 HS7 HT7 HZ7
  have hg9 := HS9.out.lt
  have hg9' := HT9.out.lt
  have HZ9 := Lib.hid (Blk.new w9 32 #[.string ⟨#[]⟩, .int .u8 0, .bool false, .slice none 0 0])
  have HXa := Lib.hid ((HX9.out.alloc (.cells #[.string ⟨#[]⟩, .int .u8 0, .bool false, .slice none 0 0] 32)).put (g := w9.heap.size) HX9.out.size 32 #[.string ⟨#[]⟩, .int .u8 0, .bool false, .slice none 0 0])
  have HSa := Lib.hid ((HS9.out.alloc (.cells #[.string ⟨#[]⟩, .int .u8 0, .bool false, .slice none 0 0] 32)).put_other (g' := w9.heap.size) (t' := 32) (by omega) #[.string ⟨#[]⟩, .int .u8 0, .bool false, .slice none 0 0])
  have HTa := Lib.hid ((HT9.out.alloc (.cells #[.string ⟨#[]⟩, .int .u8 0, .bool false, .slice none 0 0] 32)).put_other (g' := w9.heap.size) (t' := 32) (by omega) #[.string ⟨#[]⟩, .int .u8 0, .bool false, .slice none 0 0])
  have hcs := fun o => HSa.out.cell o
  have hct := fun o => HTa.out.cell o
  go_wp2_with (first | (refine wpList_storeB rfl 32 (.tmp 8) (.tmp 36) rfl w9.heap.size 32 _ _ (by exact rfl) (by exact rfl) (by exact HZ9.out) (by exact rfl) (by exact size_list) (by simp [Value.oneCell']) ?_) | (refine wpList_loadB rfl 29 (.tmp 2) rfl w3.heap.size 29 _ _ (by exact rfl) (by exact HSa.out) Tryd.underlying29 rfl (by exact size_src) ?_) | (refine wpList_loadB rfl 29 (.tmp 4) rfl w5.heap.size 29 _ _ (by exact rfl) (by exact HTa.out) Tryd.underlying29 rfl (by exact size_src) ?_))
  go_ret
  exact ⟨rfl, HX0.out.trans HXa.out⟩
end Go.Proofs.YtffianmhojiomaaDoor
