/- Laid together: The walk of the law package's awake: the chapter's example. The walks of the law package's small and has; of display.At and the copy of a screen; Place of both. The walk of the law DisplayScreens. Arguments of the display chapter, opened: a number, a list of glyphs. The walk of the law DisplaySeen. -/
import Derived.Test.YtajbhfmdmajpmaaGreatDoorPk19
import Derived.Test.YtajbhfmdmajpmaaGreatDoorPk21
import Derived.Test.YtajbhfmdmajpmaaGreatDoorPk17
import Derived.Test.YtajbhfmdmajpmaaGreatDoorPk18
import Derived.Test.YtajbhfmdmajpmaaGreatDoorPk13
import Derived.Test.YtajbhfmdmajpmaaGreatDoorPk08
import Derived.Test.YtajbhfmdmajpmaaGreatDoorPk12

/-! Awake32 -/
namespace Go.Proofs.YtajbhfmdmajpmaaGreatDoor
set_option linter.unusedVariables false
set_option linter.unusedSimpArgs false
open Go.RowKit
def u0r : Run := ⟨⟨#[72, 105]⟩, 0, false, false, ⟨#[]⟩⟩
def u0a : Ev := ⟨1, 10, 50, ⟨#[]⟩, 1, ⟨#[]⟩, [[u0r]]⟩
def u0b : Ev := ⟨2, 30, 60, ⟨#[]⟩, 1, ⟨#[]⟩, [[u0r]]⟩
def u0 : Doc := ⟨⟨#[]⟩, ⟨#[]⟩, 3, false, 2, [], [u0a, u0b], []⟩
def u0h (g : Nat) : DocH := ⟨none, 0, 0, some ⟨g, 0, none⟩, 2, 2, none, 0, 0⟩
def u0s : List Gl := [⟨14, 15, 72, 0, false, false⟩, ⟨14, 16, 105, 0, false, false⟩]
theorem u0_err : u0.err = 0 := by kernel_rfl
theorem u0_shw : u0.shw = [⟨10, 60, u0s⟩] := by kernel_rfl
theorem u0_ovl : u0.ovl = [⟨0, 1, 30, 50⟩] := by kernel_rfl
theorem u0_scrE : u0.scrErr 9 = 0 := by kernel_rfl
theorem u0_scr : u0.screen 9 = [] := by kernel_rfl
theorem u0_evs {e : Ev} (he : e ∈ u0.evs) : EvSmall e ∧ e.bytes ≤ 1099511627776 ∧ IW e.id := by
  have hrow : ∀ r ∈ ([[u0r]] : List Row), RowSmall r := by
    intro r hr
    simp only [List.mem_singleton] at hr
    subst hr
    refine ⟨by decide, fun x hx => ?_⟩
    simp only [List.mem_singleton] at hx
    subst hx
    exact ⟨by decide, by decide⟩
  simp only [u0, List.mem_cons, List.not_mem_nil, or_false] at he
  rcases he with rfl | rfl
  · exact ⟨⟨by decide, by decide, hrow⟩, by decide, ⟨by decide, by decide⟩⟩
  · exact ⟨⟨by decide, by decide, hrow⟩, by decide, ⟨by decide, by decide⟩⟩
theorem u0_fit : DocFit u0 :=
  ⟨⟨by decide, by decide, by decide, by decide⟩, (fun r hr => by cases hr), (fun e he => ⟨(u0_evs he).1, (u0_evs he).2.1⟩), (fun e he => (u0_evs he).2.2), (fun c hc => by cases hc)⟩
theorem sl1 {α : Type} {C : World → Nat → Nat → α → Prop} {w : World} {size g : Nat} {x : α} (h : C w g 0 x) : Sl w size C (some ⟨g, 0, none⟩) 1 [x] := by
  refine ⟨rfl, fun _ => ⟨g, 0, rfl, fun i y hy => ?_⟩⟩
  match i, hy with
  | 0, hy => simp at hy; subst hy; simpa using h
  | i + 1, hy => simp at hy
theorem sl2 {α : Type} {C : World → Nat → Nat → α → Prop} {w : World} {size g : Nat} {x y : α} (h : C w g 0 x) (h2 : C w g size y) : Sl w size C (some ⟨g, 0, none⟩) 2 [x, y] := by
  refine ⟨rfl, fun _ => ⟨g, 0, rfl, fun i z hz => ?_⟩⟩
  match i, hz with
  | 0, hz => simp at hz; subst hz; simpa using h
  | 1, hz => simp at hz; subst hz; simpa using h2
  | i + 2, hz => simp at hz
def runC : Array Value := #[.string ⟨#[72, 105]⟩, .int .u8 0, .bool false, .bool false, .string ⟨#[]⟩]
theorem u0_rows {w : World} {g0 g1 : Nat} (h0 : Blk w g0 104 runC) (h1 : Blk w g1 107 #[.slice (some ⟨g0, 0, none⟩) 1 1]) : RowsAt w (some ⟨g1, 0, none⟩) 1 [[u0r]] :=
  sl1 ⟨some ⟨g0, 0, none⟩, 1, 1, h1.cell 0, Nat.le_refl _, by decide, sl1 ⟨h0.cell 0, h0.cell 1, h0.cell 2, h0.cell 3, h0.cell 4⟩⟩
def evsC (g1 g3 : Nat) : Array Value := #[.int .i64 1, .int .i64 10, .int .i64 50, .string ⟨#[]⟩, .int .u8 1, .string ⟨#[]⟩, .slice (some ⟨g1, 0, none⟩) 1 1, .int .i64 2, .int .i64 30, .int .i64 60, .string ⟨#[]⟩, .int .u8 1, .string ⟨#[]⟩, .slice (some ⟨g3, 0, none⟩) 1 1]
theorem u0_at {w : World} {g0 g1 g2 g3 g4 : Nat} (h0 : Blk w g0 104 runC) (h1 : Blk w g1 107 #[.slice (some ⟨g0, 0, none⟩) 1 1]) (h2 : Blk w g2 104 runC) (h3 : Blk w g3 107 #[.slice (some ⟨g2, 0, none⟩) 1 1]) (h4 : Blk w g4 53 (evsC g1 g3)) : DocAt w u0 (u0h g4) := by
  refine ⟨Sl.nil, sl2 ⟨some ⟨g1, 0, none⟩, 1, 1, fun j u hu => ?_, u0_rows h0 h1, Nat.le_refl _, by decide⟩ ⟨some ⟨g3, 0, none⟩, 1, 1, fun j u hu => ?_, u0_rows h2 h3, Nat.le_refl _, by decide⟩, Sl.nil⟩
  · have hj : j < 7 := by have := (List.getElem?_eq_some_iff.1 hu).1; simpa [Ev.cells] using this
    rw [Nat.zero_add, h4.cell]
    match j, hj with
    | 0, _ => rw [← hu]; rfl
    | 1, _ => rw [← hu]; rfl
    | 2, _ => rw [← hu]; rfl
    | 3, _ => rw [← hu]; rfl
    | 4, _ => rw [← hu]; rfl
    | 5, _ => rw [← hu]; rfl
    | 6, _ => rw [← hu]; rfl
  · have hj : j < 7 := by have := (List.getElem?_eq_some_iff.1 hu).1; simpa [Ev.cells] using this
    rw [h4.cell]
    match j, hj with
    | 0, _ => rw [← hu]; rfl
    | 1, _ => rw [← hu]; rfl
    | 2, _ => rw [← hu]; rfl
    | 3, _ => rw [← hu]; rfl
    | 4, _ => rw [← hu]; rfl
    | 5, _ => rw [← hu]; rfl
    | 6, _ => rw [← hu]; rfl
theorem Row32_any (w : World) : Calls Tryz.prog 33 #[.string ⟨#[72, 105]⟩] w fun en w' => en = .returned (.slice (some ⟨w.heap.size + 1, 0, none⟩) 1 1) ∧ w' = (w.alloc (.cells #[.string ⟨#[72, 105]⟩, .int .u8 0, .bool false, .bool false, .string ⟨#[]⟩] 104)).alloc (.cells #[.slice (some ⟨w.heap.size, 0, none⟩) 1 1] 107) := by
  go_enter Tryz.func33, Tryz.ntmps33
  go_wp2_with fail
  go_ret
  exact ⟨rfl, rfl⟩
def u0c (g : Nat) : Array Value := #[.string ⟨#[]⟩, .string ⟨#[]⟩, .int .u8 3, .bool false, .int .i64 2, .slice none 0 0, .slice (some ⟨g, 0, none⟩) 2 2, .slice none 0 0]
set_option maxRecDepth 100000 in
set_option maxHeartbeats 8000000 in
theorem awake32_any (w : World) (hE : Env w) : Calls Tryz.prog 12 #[] w fun en w' => en = .returned (.bool true) ∧ Ext w w' := by
  have HEn := Lib.hid hE
  clear hE
  obtain ⟨W1, hW1⟩ : ∃ W1, W1 = (w.alloc (.cells runC 104)).alloc (.cells #[.slice (some ⟨w.heap.size, 0, none⟩) 1 1] 107) := ⟨_, rfl⟩
  obtain ⟨W2, hW2⟩ : ∃ W2, W2 = (W1.alloc (.cells runC 104)).alloc (.cells #[.slice (some ⟨W1.heap.size, 0, none⟩) 1 1] 107) := ⟨_, rfl⟩
  have hz1 : W1.heap.size = w.heap.size + 2 := by rw [hW1]; simp
  have hz2 : W2.heap.size = w.heap.size + 4 := by rw [hW2]; simp [hz1]
  have HX1 : Hid (Ext w W1) := by show Ext _ _; rw [hW1]; exact ((Ext.refl w).alloc _).alloc _
  have HX2 : Hid (Ext W1 W2) := by show Ext _ _; rw [hW2]; exact ((Ext.refl W1).alloc _).alloc _
  have HR0 : Hid (Blk W1 w.heap.size 104 runC) := by show Blk _ _ _ _; rw [hW1]; exact (Blk.new w _ _).alloc _
  have HR1 : Hid (Blk W1 (w.heap.size + 1) 107 #[.slice (some ⟨w.heap.size, 0, none⟩) 1 1]) := by show Blk _ _ _ _; rw [hW1]; exact Blk.new' (by simp)
  have HR2 : Hid (Blk W2 (w.heap.size + 2) 104 runC) := by show Blk _ _ _ _; rw [hW2, ← hz1]; exact (Blk.new W1 _ _).alloc _
  have HR3 : Hid (Blk W2 (w.heap.size + 3) 107 #[.slice (some ⟨w.heap.size + 2, 0, none⟩) 1 1]) := by show Blk _ _ _ _; rw [hW2, ← hz1]; exact Blk.new' (by simp [hz1])
  have HC1 : Hid (Calls Tryz.prog 33 #[.string ⟨#[72, 105]⟩] w fun en w' => en = .returned (.slice (some ⟨w.heap.size + 1, 0, none⟩) 1 1) ∧ w' = W1) := by show Calls _ _ _ _ _; rw [hW1]; exact Row32_any w
  have HC2 : Hid (Calls Tryz.prog 33 #[.string ⟨#[72, 105]⟩] W1 fun en w' => en = .returned (.slice (some ⟨w.heap.size + 3, 0, none⟩) 1 1) ∧ w' = W2) := by
    have h := Row32_any W1
    rw [hz1] at h
    rw [hz1] at hW2
    show Calls _ _ _ _ _
    rw [hW2]
    exact h
  clear hW1 hW2 hz1
  go_enter Tryz.func12, Tryz.ntmps12
  go_wp2_with fail
  refine HC1.out.mono ?_
  rintro en w1 ⟨rfl, rfl⟩
  go_wp2_with fail
  refine HC2.out.mono ?_
  rintro en w2 ⟨rfl, rfl⟩
  clear HC1 HC2
  go_upto_region 2 with fail
  have hxe : Ext w2 ((w2.alloc (.cells #[.int .i64 1, .int .i64 10, .int .i64 50, .string ⟨#[]⟩, .int .u8 1, .string ⟨#[]⟩, .slice (some ⟨w.heap.size + 1, 0, none⟩) 1 1, .int .i64 2, .int .i64 30, .int .i64 60, .string ⟨#[]⟩, .int .u8 1, .string ⟨#[]⟩, .slice (some ⟨w.heap.size + 3, 0, none⟩) 1 1] 53)).alloc (.cells #[.string ⟨#[]⟩, .string ⟨#[]⟩, .int .u8 3, .bool false, .int .i64 2, .slice none 0 0, .slice (some ⟨w.heap.size + 4, 0, none⟩) 2 2, .slice none 0 0] 27)) := ((Ext.refl w2).alloc _).alloc _
  have HX : Hid (Ext w ((w2.alloc (.cells #[.int .i64 1, .int .i64 10, .int .i64 50, .string ⟨#[]⟩, .int .u8 1, .string ⟨#[]⟩, .slice (some ⟨w.heap.size + 1, 0, none⟩) 1 1, .int .i64 2, .int .i64 30, .int .i64 60, .string ⟨#[]⟩, .int .u8 1, .string ⟨#[]⟩, .slice (some ⟨w.heap.size + 3, 0, none⟩) 1 1] 53)).alloc (.cells #[.string ⟨#[]⟩, .string ⟨#[]⟩, .int .u8 3, .bool false, .int .i64 2, .slice none 0 0, .slice (some ⟨w.heap.size + 4, 0, none⟩) 2 2, .slice none 0 0] 27))) := HX1.out.trans (HX2.out.trans hxe)
  have HB : Hid (Blk ((w2.alloc (.cells #[.int .i64 1, .int .i64 10, .int .i64 50, .string ⟨#[]⟩, .int .u8 1, .string ⟨#[]⟩, .slice (some ⟨w.heap.size + 1, 0, none⟩) 1 1, .int .i64 2, .int .i64 30, .int .i64 60, .string ⟨#[]⟩, .int .u8 1, .string ⟨#[]⟩, .slice (some ⟨w.heap.size + 3, 0, none⟩) 1 1] 53)).alloc (.cells #[.string ⟨#[]⟩, .string ⟨#[]⟩, .int .u8 3, .bool false, .int .i64 2, .slice none 0 0, .slice (some ⟨w.heap.size + 4, 0, none⟩) 2 2, .slice none 0 0] 27)) (w.heap.size + 4 + 1) 27 #[.string ⟨#[]⟩, .string ⟨#[]⟩, .int .u8 3, .bool false, .int .i64 2, .slice none 0 0, .slice (some ⟨w.heap.size + 4, 0, none⟩) 2 2, .slice none 0 0]) := Blk.new' (by simp [hz2])
  have hb4 : Blk ((w2.alloc (.cells #[.int .i64 1, .int .i64 10, .int .i64 50, .string ⟨#[]⟩, .int .u8 1, .string ⟨#[]⟩, .slice (some ⟨w.heap.size + 1, 0, none⟩) 1 1, .int .i64 2, .int .i64 30, .int .i64 60, .string ⟨#[]⟩, .int .u8 1, .string ⟨#[]⟩, .slice (some ⟨w.heap.size + 3, 0, none⟩) 1 1] 53)).alloc (.cells #[.string ⟨#[]⟩, .string ⟨#[]⟩, .int .u8 3, .bool false, .int .i64 2, .slice none 0 0, .slice (some ⟨w.heap.size + 4, 0, none⟩) 2 2, .slice none 0 0] 27)) (w.heap.size + 4) 53 (evsC (w.heap.size + 1) (w.heap.size + 3)) := (Blk.new' (by rw [hz2])).alloc _
  have HAt : Hid (DocAt ((w2.alloc (.cells #[.int .i64 1, .int .i64 10, .int .i64 50, .string ⟨#[]⟩, .int .u8 1, .string ⟨#[]⟩, .slice (some ⟨w.heap.size + 1, 0, none⟩) 1 1, .int .i64 2, .int .i64 30, .int .i64 60, .string ⟨#[]⟩, .int .u8 1, .string ⟨#[]⟩, .slice (some ⟨w.heap.size + 3, 0, none⟩) 1 1] 53)).alloc (.cells #[.string ⟨#[]⟩, .string ⟨#[]⟩, .int .u8 3, .bool false, .int .i64 2, .slice none 0 0, .slice (some ⟨w.heap.size + 4, 0, none⟩) 2 2, .slice none 0 0] 27)) u0 (u0h (w.heap.size + 4))) := u0_at (HR0.out.ext (HX2.out.trans hxe)) (HR1.out.ext (HX2.out.trans hxe)) (HR2.out.ext hxe) (HR3.out.ext hxe) hb4
  clear hb4 hxe HX1 HX2 HR0 HR1 HR2 HR3 hz2
  generalize (w2.alloc (.cells #[.int .i64 1, .int .i64 10, .int .i64 50, .string ⟨#[]⟩, .int .u8 1, .string ⟨#[]⟩, .slice (some ⟨w.heap.size + 1, 0, none⟩) 1 1, .int .i64 2, .int .i64 30, .int .i64 60, .string ⟨#[]⟩, .int .u8 1, .string ⟨#[]⟩, .slice (some ⟨w.heap.size + 3, 0, none⟩) 1 1] 53)).alloc (.cells #[.string ⟨#[]⟩, .string ⟨#[]⟩, .int .u8 3, .bool false, .int .i64 2, .slice none 0 0, .slice (some ⟨w.heap.size + 4, 0, none⟩) 2 2, .slice none 0 0] 27) = W0 at *
  have HShw := Lib.hid (fun w' (hx : Ext W0 w') => Shows_any u0 (u0h (w.heap.size + 4)) w' (HEn.out.ext (HX.out.trans hx)) (HAt.out.ext hx) u0_fit (by simp [u0h]) (by simp [u0h]) (by simp [u0h]))
  have HOvl := Lib.hid (fun w' (hx : Ext W0 w') => Overlaps_any u0 (u0h (w.heap.size + 4)) w' (HEn.out.ext (HX.out.trans hx)) (HAt.out.ext hx) u0_fit (by simp [u0h]) (by simp [u0h]) (by simp [u0h]))
  have HScr := Lib.hid (fun w' (hx : Ext W0 w') => Screen_any u0 (u0h (w.heap.size + 4)) 9 w' (HEn.out.ext (HX.out.trans hx)) (HAt.out.ext hx) u0_fit (by simp [u0h]) (by simp [u0h]) (by simp [u0h]))
  unfold ShowsPost at HShw
  unfold OvPost at HOvl
  unfold ScreenPost at HScr
  rw [u0_shw, u0_err] at HShw
  rw [u0_ovl, u0_err] at HOvl
  rw [u0_scr, u0_scrE] at HScr
  unfold Doc.cells u0 u0h at HShw HOvl HScr
  dsimp only at HShw HOvl HScr
  clear HAt HEn
  go_wp2_with (refine wpList_loadB rfl 27 (.tmp 1) rfl (w.heap.size + 4 + 1) 27 _ _ (by exact rfl) (by exact HB.out) Tryz.underlying27 rfl (by exact size_docI) ?_)
  refine (HShw.out _ (Ext.refl _)).mono ?_
  rintro en w3 ⟨A, c, ps, rfl, hps, hS, hc, hscr, hx3⟩
  obtain ⟨p, rfl⟩ : ∃ p, ps = [p] := by
    match ps, hps with
    | [p], _ => exact ⟨p, rfl⟩
    | [], hps => simp at hps
    | _ :: _ :: _, hps => simp at hps
  obtain ⟨sh, A2, c2⟩ := p
  simp only [List.map_cons, List.map_nil, List.cons.injEq, and_true] at hps
  subst hps
  obtain ⟨sb, so, hA, hcell⟩ := hS.2 (by decide)
  subst hA
  have hp0 := hcell 0 _ rfl
  have hs0 : w3.cell? ⟨sb, so, none⟩ = some (.int .i64 10) := by simpa using hp0 0 _ rfl
  have hs1 : w3.cell? ⟨sb, so + 1, none⟩ = some (.int .i64 60) := by simpa using hp0 1 _ rfl
  have hs2 : w3.cell? ⟨sb, so + 2, none⟩ = some (.slice A2 2 c2) := hp0 2 _ rfl
  have hg : Sl w3 6 (Cells Gl.vals) A2 2 u0s := (hscr _ (List.mem_singleton.2 rfl)).gls
  obtain ⟨gb, go, hA2, hgc⟩ := hg.2 (by decide)
  subst hA2
  have hg0 := hgc 0 _ rfl
  have hk0 : w3.cell? ⟨gb, go, none⟩ = some (.int .i64 14) := by simpa using hg0 0 _ rfl
  have hk1 : w3.cell? ⟨gb, go + 1, none⟩ = some (.int .i64 15) := by simpa using hg0 1 _ rfl
  have hk2 : w3.cell? ⟨gb, go + 2, none⟩ = some (.int .i32 72) := by simpa using hg0 2 _ rfl
  have hk3 : w3.cell? ⟨gb, go + 3, none⟩ = some (.int .u8 0) := by simpa using hg0 3 _ rfl
  have hk4 : w3.cell? ⟨gb, go + 4, none⟩ = some (.bool false) := by simpa using hg0 4 _ rfl
  have hk5 : w3.cell? ⟨gb, go + 5, none⟩ = some (.bool false) := by simpa using hg0 5 _ rfl
  have HX3 := Lib.hid hx3
  have HB3 := Lib.hid (HB.out.ext hx3)
  clear hg hg0 hgc hp0 hcell hS hscr hx3 HB HShw
  go_wp2_with (refine wpList_loadB rfl 27 (.tmp 1) rfl (w.heap.size + 4 + 1) 27 _ _ (by exact rfl) (by exact HB3.out) Tryz.underlying27 rfl (by exact size_docI) ?_)
  refine (HOvl.out _ HX3.out).mono ?_
  rintro en w4 ⟨A3, c3, rfl, hS, hc3, hx4⟩
  obtain ⟨ob, oo, hA, hcell⟩ := hS.2 (by decide)
  subst hA
  have hp0 := hcell 0 _ rfl
  have ho0 : w4.cell? ⟨ob, oo, none⟩ = some (.int .i64 0) := by simpa using hp0 0 _ rfl
  have ho1 : w4.cell? ⟨ob, oo + 1, none⟩ = some (.int .i64 1) := by simpa using hp0 1 _ rfl
  have ho2 : w4.cell? ⟨ob, oo + 2, none⟩ = some (.int .i64 30) := by simpa using hp0 2 _ rfl
  have ho3 : w4.cell? ⟨ob, oo + 3, none⟩ = some (.int .i64 50) := by simpa using hp0 3 _ rfl
  have HO := Lib.hid (show (w4.cell? ⟨ob, oo, none⟩ = some (.int .i64 0) ∧ w4.cell? ⟨ob, oo + 1, none⟩ = some (.int .i64 1) ∧ w4.cell? ⟨ob, oo + 2, none⟩ = some (.int .i64 30) ∧ w4.cell? ⟨ob, oo + 3, none⟩ = some (.int .i64 50)) from ⟨ho0, ho1, ho2, ho3⟩)
  have hs0 := hx4.cell hs0
  have hs1 := hx4.cell hs1
  have hs2 := hx4.cell hs2
  have hk0 := hx4.cell hk0
  have hk1 := hx4.cell hk1
  have hk2 := hx4.cell hk2
  have hk3 := hx4.cell hk3
  have hk4 := hx4.cell hk4
  have hk5 := hx4.cell hk5
  have HX4 := Lib.hid (HX3.out.trans hx4)
  have HB4 := Lib.hid (HB3.out.ext hx4)
  clear hp0 hcell hS ho0 ho1 ho2 ho3 hx4 HB3 HX3 HOvl
  go_wp2_with (refine wpList_loadB rfl 27 (.tmp 1) rfl (w.heap.size + 4 + 1) 27 _ _ (by exact rfl) (by exact HB4.out) Tryz.underlying27 rfl (by exact size_docI) ?_)
  refine (HScr.out _ HX4.out).mono ?_
  rintro en w5 ⟨A5, c5, rfl, hS5, hc5, hx5, -⟩
  obtain ⟨ho0, ho1, ho2, ho3⟩ := HO.out
  have hq0 := hx5.cell ho0
  have hq1 := hx5.cell ho1
  have hq2 := hx5.cell ho2
  have hq3 := hx5.cell ho3
  have HX5 := Lib.hid (HX.out.trans (HX4.out.trans hx5))
  clear ho0 ho1 ho2 ho3 HO hs0 hs1 hs2 hk0 hk1 hk2 hk3 hk4 hk5 hx5 hS5 HScr HB4 HX4
  go_wp2_with fail
  go_ret
  exact ⟨rfl, HX5.out⟩
end Go.Proofs.YtajbhfmdmajpmaaGreatDoor

/-! Has32 -/
namespace Go.Proofs.YtajbhfmdmajpmaaGreatDoor
set_option linter.unusedVariables false
set_option linter.unusedSimpArgs false
open Go.RowKit
set_option maxRecDepth 100000 in
set_option maxHeartbeats 2000000 in
theorem Small_any (d : Doc) (h : DocH) (w : World) : Calls Tryz.prog 13 #[.agg (d.cells h)] w fun en w' => en = .returned (.bool (decide (h.en ≤ 40 ∧ h.rn ≤ 40 ∧ h.cn ≤ 100))) ∧ Ext w w' := by
  have HX := Lib.hid ((Ext.refl w).alloc (.cells (d.cells h) 27))
  have hb := fun o => (Blk.new w 27 (d.cells h)).cell o
  obtain ⟨ra, nr, rc, ea, en, ec, ca, nc, cc⟩ := h
  unfold Doc.cells at *
  dsimp only at *
  by_cases h1 : en ≤ 40
  · by_cases h2 : nr ≤ 40
    · by_cases h3 : nc ≤ 100
      · have HD : Hid (decide (en ≤ 40 ∧ nr ≤ 40 ∧ nc ≤ 100) = true) := decide_eq_true ⟨h1, h2, h3⟩
        have e1 : decide ((en : Int) ≤ 40) = true := by simp; omega
        have e2 : decide ((nr : Int) ≤ 40) = true := by simp; omega
        have e3 : decide ((nc : Int) ≤ 100) = true := by simp; omega
        go_enter Tryz.func13, Tryz.ntmps13
        go_wp2_with fail
        go_ret
        exact ⟨by rw [HD.out]; rfl, HX.out⟩
      · have HD : Hid (decide (en ≤ 40 ∧ nr ≤ 40 ∧ nc ≤ 100) = false) := decide_eq_false (fun h => h3 h.2.2)
        have e1 : decide ((en : Int) ≤ 40) = true := by simp; omega
        have e2 : decide ((nr : Int) ≤ 40) = true := by simp; omega
        have e3 : decide ((nc : Int) ≤ 100) = false := by simp; omega
        go_enter Tryz.func13, Tryz.ntmps13
        go_wp2_with fail
        go_ret
        exact ⟨by rw [HD.out]; rfl, HX.out⟩
    · have HD : Hid (decide (en ≤ 40 ∧ nr ≤ 40 ∧ nc ≤ 100) = false) := decide_eq_false (fun h => h2 h.2.1)
      have e1 : decide ((en : Int) ≤ 40) = true := by simp; omega
      have e2 : decide ((nr : Int) ≤ 40) = false := by simp; omega
      go_enter Tryz.func13, Tryz.ntmps13
      go_wp2_with fail
      go_ret
      exact ⟨by rw [HD.out]; rfl, HX.out⟩
  · have HD : Hid (decide (en ≤ 40 ∧ nr ≤ 40 ∧ nc ≤ 100) = false) := decide_eq_false (fun h => h1 h.1)
    have e1 : decide ((en : Int) ≤ 40) = false := by simp; omega
    go_enter Tryz.func13, Tryz.ntmps13
    go_wp2_with fail
    go_ret
    exact ⟨by rw [HD.out]; rfl, HX.out⟩
theorem dscreen_480 (d : Doc) (f : Int) : (d.screen f).length ≤ 480 := by
  unfold Doc.screen
  split
  · exact scr_480 d f
  · simp
/-- a copy of a screen -/
theorem CloneGls_any (A : Option Addr) (n c : Nat) (l : List Gl) (w : World) (hl : GlsAt w A n l) (hn : n ≤ 1000000) :
    Calls Tryz.prog 53 #[.slice A n c] w fun e w' => ∃ A' c', e = .returned (.slice A' n c') ∧ GlsAt w' A' n l ∧ Ext w w' := by
  have hq := fun w => Lib.run_eql_slice_nil (P := Tryz.prog) w 30 58 A n c 0 0 Tryz.underlying30
  have HL : Hid (Sl w 6 (Cells Gl.vals) A n l) := hl
  clear hl
  cases A with
  | none =>
    have hn0 : n = 0 := by
      rcases Nat.eq_zero_or_pos n with h | h
      · exact h
      · obtain ⟨_, _, h, _⟩ := HL.out.2 h; cases h
    subst hn0
    simp only [Option.isNone_none] at hq
    go_enter Tryz.func53, Tryz.ntmps53
    go_wp2_with fail
    go_ret
    exact ⟨none, 0, rfl, HL.out, Ext.refl _⟩
  | some ad =>
    simp only [Option.isNone_some] at hq
    go_enter Tryz.func53, Tryz.ntmps53
    go_wp2_with (at_builtin; refine wpList_appendS rfl (.tmp 5) (.tmp 6) 30 rfl info_gl Tryz.underlying30 rfl (by decide) (by exact own_nil0 w _ _ w.heap.size (Nat.le_refl _)) (by exact rfl) (by exact rfl) (by exact Sl.ext (Cells.stays _) HL.out ((Ext.refl w).alloc _)) (fun _ => rfl) (by intro r u hu; simp [Gl.vals] at hu; rcases hu with rfl | rfl | rfl | rfl | rfl | rfl <;> rfl) (by omega) (by simp [maxLen]; omega) (by simp) ?_; intro v' w3 hown hgr _)
    go_ret
    simp only [Nat.zero_add, List.nil_append] at hown
    obtain ⟨A', c', rfl, hc, _, hsl, hfr⟩ := own_sl (f := Gl.vals) (size := 6) (fun _ => rfl) HL.out.len hown
    exact ⟨A', c', rfl, hsl, ((Ext.refl w).alloc _).grown hgr (fun q hq => by simp [Value.ownBlock] at hq; omega)⟩
theorem atS_hit {l : List Sh} {f : Int} {k : Nat} {x : Sh} (h : atS (l.take k) f = [] ∧ (l.take k).find? (fun x => decide (x.inn ≤ f) && decide (f < x.out)) = none) (hx : l[k]? = some x) (h1 : x.inn ≤ f) (h2 : f < x.out) : atS l f = x.scr := by
  have hk := (List.getElem?_eq_some_iff.1 hx).1
  have e : l = l.take k ++ x :: l.drop (k + 1) := by rw [← drop_at l k x hx, List.take_append_drop]
  unfold atS
  rw [e, List.find?_append, h.2]
  simp [h1, h2]
theorem find_step {l : List Sh} {f : Int} {k : Nat} {x : Sh} (h : (l.take k).find? (fun x => decide (x.inn ≤ f) && decide (f < x.out)) = none) (hx : l[k]? = some x) (h1 : ¬ (x.inn ≤ f ∧ f < x.out)) : (l.take (k + 1)).find? (fun x => decide (x.inn ≤ f) && decide (f < x.out)) = none := by
  rw [take_snoc' l k x hx, List.find?_append, h]
  simp only [Option.none_or, List.find?_cons, List.find?_nil]
  have : (decide (x.inn ≤ f) && decide (f < x.out)) = false := by
    rw [Bool.and_eq_false_iff, decide_eq_false_iff_not, decide_eq_false_iff_not]
    omega
  rw [this]
set_option maxRecDepth 100000 in
set_option maxHeartbeats 2000000 in
theorem ShAt_any (A : Option Addr) (c : Nat) (ps : List ShP) (f : Int) (w : World) (hS : Sl w 3 (Cells shVals) A ps.length ps) (hsc : ∀ p ∈ ps, ScrIn w p) (hl : ∀ p ∈ ps, p.1.scr.length ≤ 480) (hn : ps.length ≤ 1000000) :
    Calls Tryz.prog 27 #[.slice A ps.length c, .int .i64 f] w fun e w' => ∃ A' n' c', e = .returned (.slice A' n' c') ∧ GlsAt w' A' n' (atS (ps.map (·.1)) f) ∧ Ext w w' := by
  have HS := Lib.hid hS
  have HSc := Lib.hid hsc
  have HL := Lib.hid hl
  clear hS hsc hl
  go_enter Tryz.func27, Tryz.ntmps27
  go_wp2_with fail
  go_loopw [9] (fun i wr => ∃ k : Nat, k ≤ ps.length ∧ i = .int .i64 k ∧ Ext w wr ∧ ((ps.map (·.1)).take k).find? (fun x => decide (x.inn ≤ f) && decide (f < x.out)) = none) (fun i _ => ps.length - (intOf i).toNat)
  case atStart => exact ⟨0, Nat.zero_le _, rfl, Ext.refl _, rfl⟩
  case round =>
    obtain ⟨k, hk, rfl, hx, hf⟩ := hrel
    have HX := Lib.hid hx
    have HF := Lib.hid hf
    clear hx hf
    by_cases hlt : k < ps.length
    · obtain ⟨b, off, p, rfl, hp, hC⟩ := (Sl.ext (Cells.stays _) HS.out HX.out).at_ hlt
      have c0 : wr.cell? ⟨b, off + k * 3, none⟩ = some (.int .i64 p.1.inn) := by simpa using hC 0 _ rfl
      have c1 : wr.cell? ⟨b, off + k * 3 + 1, none⟩ = some (.int .i64 p.1.out) := hC 1 _ rfl
      have c2 : wr.cell? ⟨b, off + k * 3 + 2, none⟩ = some (.slice p.2.1 p.1.scr.length p.2.2) := hC 2 _ rfl
      have hmp : (ps.map (·.1))[k]? = some p.1 := by rw [List.getElem?_map, hp]; rfl
      have HSp := Lib.hid ((HSc.out p (List.mem_of_getElem? hp)).gls.ext HX.out)
      have hpl := HL.out p (List.mem_of_getElem? hp)
      have HXa := Lib.hid (HX.out.alloc (.cells #[.int .i64 p.1.inn, .int .i64 p.1.out, .slice p.2.1 p.1.scr.length p.2.2] 64))
      have HMp := Lib.hid hmp
      clear hC hp hmp
      by_cases h1 : p.1.inn ≤ f
      · by_cases h2 : f < p.1.out
        · have HV : Hid (atS (ps.map (·.1)) f = p.1.scr) := atS_hit ⟨by unfold atS; rw [HF.out]; rfl, HF.out⟩ HMp.out h1 h2
          have HCl := Lib.hid (fun w' (hx : Ext wr w') => CloneGls_any p.2.1 p.1.scr.length p.2.2 p.1.scr w' (HSp.out.ext hx) (by omega))
          have hxa := Lib.hid ((Ext.refl wr).alloc (.cells #[.int .i64 p.1.inn, .int .i64 p.1.out, .slice p.2.1 p.1.scr.length p.2.2] 64))
          go_wp2_with fail
          refine (HCl.out _ hxa.out).mono ?_
          rintro en w5 ⟨A', c', rfl, hg, hx5⟩
          have HG := Lib.hid hg
          have HX5 := Lib.hid (HXa.out.trans hx5)
          clear hg hx5 HCl
          go_wp2_with fail
          go_ret
          rw [HV.out]
          exact ⟨A', _, c', rfl, HG.out, HX5.out⟩
        · have HV := Lib.hid (find_step HF.out HMp.out (fun h => h2 h.2))
          go_wp2_with fail
          exact ⟨⟨k + 1, by omega, by go_num, HXa.out, HV.out⟩, by simp [intOf]; omega⟩
      · have HV := Lib.hid (find_step HF.out HMp.out (fun h => h1 h.1))
        go_wp2_with fail
        exact ⟨⟨k + 1, by omega, by go_num, HXa.out, HV.out⟩, by simp [intOf]; omega⟩
    · have HV : Hid (atS (ps.map (·.1)) f = []) := by
        have h1 := HF.out
        rw [List.take_of_length_le (by rw [List.length_map]; omega)] at h1
        show _ = _
        unfold atS
        rw [h1]
        rfl
      go_wp2_with fail
      go_ret
      rw [HV.out]
      exact ⟨none, 0, 0, rfl, Sl.nil, HX.out⟩
/-- what Place returns -/
def Ev.plc (e : Ev) (regs : List Reg) : List Gl := if e.err regs = 0 then e.gls regs else []
theorem plc_len (e : Ev) (regs : List Reg) : (e.plc regs).length ≤ 480 := by
  unfold Ev.plc
  split
  · rename_i h; exact gls_len h
  · simp
def Plc32Post (e : Ev) (regs : List Reg) (w : World) (en : Ending) (w' : World) : Prop :=
  ∃ A c, en = .returned (.tuple #[.slice A (e.plc regs).length c, .int .i64 (e.err regs)]) ∧ GlsAt w' A (e.plc regs).length (e.plc regs) ∧ Ext w w'
theorem plc32Post_err {e : Ev} {regs : List Reg} {w w' : World} (h : e.err regs ≠ 0) (hx : Ext w w') : Plc32Post e regs w (.returned (.tuple #[.slice none 0 0, .int .i64 (e.err regs)])) w' := by
  have h1 : e.plc regs = [] := by unfold Ev.plc; rw [if_neg h]
  unfold Plc32Post
  rw [h1]
  exact ⟨none, 0, rfl, Sl.nil, hx⟩
set_option maxRecDepth 100000 in
set_option maxHeartbeats 2000000 in
theorem Place32_any (e : Ev) (A : Option Addr) (n c : Nat) (A2 : Option Addr) (n2 c2 : Nat) (regs : List Reg) (w : World) (hE : Env w) (he : EvAt w e A n c) (hb : EvSmall e) (hr : RegsAt w A2 n2 regs) (hr2 : n2 ≤ 9223372036854775807) (hrs : RegsSmall regs) :
    Calls Tryz.prog 23 #[.slice A2 n2 c2, .agg (e.cells A n c)] w (Plc32Post e regs w) := by
  have HCk := Lib.hid (fun w' (hx : Ext w w') => ECheck_any e A n c A2 n2 c2 regs w' (hE.ext hx) (he.ext hx) hb (hr.ext hx) hr2 hrs)
  have HPl := Lib.hid (fun w' (hx : Ext w w') (h0 : e.err regs = 0) => Place_gls e A n c A2 n2 c2 regs w' (hE.ext hx) (he.ext hx) hb.2.2 (hr.ext hx) hr2 hrs h0)
  have HX0 := Lib.hid ((Ext.refl w).alloc (.cells (e.cells A n c) 53))
  have HB0 := Lib.hid (Blk.new w 53 (e.cells A n c))
  clear hE he hb hr hr2 hrs
  unfold GlsPost at HPl
  unfold Ev.cells at *
  go_enter Tryz.func23, Tryz.ntmps23
  go_wp2_with (refine wpList_loadB rfl 53 (.tmp 3) rfl w.heap.size 53 _ _ (by exact rfl) (by exact HB0.out) Tryz.underlying53 rfl (by exact size_evt) ?_)
  refine (HCk.out _ HX0.out).mono ?_
  rintro en1 w1 ⟨rfl, hx1⟩
  have HX1 := Lib.hid (HX0.out.trans hx1)
  have HB1 := Lib.hid (HB0.out.ext hx1)
  clear hx1 HX0 HB0 HCk
  by_cases h0 : e.err regs = 0
  case neg =>
    have HN := Lib.hid h0
    have hne : (e.err regs != 0) = true := by simpa using h0
    clear h0
    go_wp2_with fail
    go_ret2
    exact plc32Post_err HN.out HX1.out
  have HOk := Lib.hid h0
  have HV : Hid (e.plc regs = e.gls regs) := by show _ = _; unfold Ev.plc; rw [if_pos h0]
  rw [h0]
  clear h0
  go_wp2_with (refine wpList_loadB rfl 53 (.tmp 3) rfl w.heap.size 53 _ _ (by exact rfl) (by exact HB1.out) Tryz.underlying53 rfl (by exact size_evt) ?_)
  refine (HPl.out _ HX1.out HOk.out).mono ?_
  rintro en2 w2 ⟨GA, gc, rfl, hg, hgc, hx2, -⟩
  have HG := Lib.hid hg
  have HX2 := Lib.hid (HX1.out.trans hx2)
  clear hg hx2
  go_wp2_with fail
  go_ret2
  unfold Plc32Post
  rw [HV.out, HOk.out]
  exact ⟨GA, gc, rfl, HG.out, HX2.out⟩
set_option maxRecDepth 100000 in
set_option maxHeartbeats 2000000 in
theorem R32Place_any (e : Ev) (A : Option Addr) (n c : Nat) (A2 : Option Addr) (n2 c2 : Nat) (regs : List Reg) (w : World) (hE : Env w) (he : EvAt w e A n c) (hb : EvSmall e) (hby : e.bytes ≤ 1099511627776) (hr : RegsAt w A2 n2 regs) (hr2 : n2 ≤ 9223372036854775807) (hrs : RegsSmall regs) :
    Calls Tryz.prog 30 #[.slice A2 n2 c2, .agg (e.cells A n c)] w (Plc32Post e regs w) := by
  have HCk := Lib.hid (fun w' (hx : Ext w w') => R11Check_any e A n c A2 n2 c2 regs w' (hE.ext hx) (he.ext hx) hb hby (hr.ext hx) hr2 hrs)
  have HPl := Lib.hid (fun w' (hx : Ext w w') (h0 : e.err regs = 0) => R32glyphs e A n c A2 n2 c2 regs w' (hE.ext hx) (he.ext hx) hb.2.2 (hr.ext hx) hr2 hrs h0)
  have HX0 := Lib.hid ((Ext.refl w).alloc (.cells (e.cells A n c) 53))
  have HB0 := Lib.hid (Blk.new w 53 (e.cells A n c))
  clear hE he hb hr hr2 hrs
  unfold GlsPost at HPl
  unfold Ev.cells at *
  go_enter Tryz.func30, Tryz.ntmps30
  go_wp2_with (refine wpList_loadB rfl 53 (.tmp 3) rfl w.heap.size 53 _ _ (by exact rfl) (by exact HB0.out) Tryz.underlying53 rfl (by exact size_evt) ?_)
  refine (HCk.out _ HX0.out).mono ?_
  rintro en1 w1 ⟨rfl, hx1⟩
  have HX1 := Lib.hid (HX0.out.trans hx1)
  have HB1 := Lib.hid (HB0.out.ext hx1)
  clear hx1 HX0 HB0 HCk
  by_cases h0 : e.err regs = 0
  case neg =>
    have HN := Lib.hid h0
    have hne : (e.err regs != 0) = true := by simpa using h0
    clear h0
    go_wp2_with fail
    go_ret2
    exact plc32Post_err HN.out HX1.out
  have HOk := Lib.hid h0
  have HV : Hid (e.plc regs = e.gls regs) := by show _ = _; unfold Ev.plc; rw [if_pos h0]
  rw [h0]
  clear h0
  go_wp2_with (refine wpList_loadB rfl 53 (.tmp 3) rfl w.heap.size 53 _ _ (by exact rfl) (by exact HB1.out) Tryz.underlying53 rfl (by exact size_evt) ?_)
  refine (HPl.out _ HX1.out HOk.out).mono ?_
  rintro en2 w2 ⟨GA, gc, rfl, hg, hgc, hx2, -⟩
  have HG := Lib.hid hg
  have HX2 := Lib.hid (HX1.out.trans hx2)
  clear hg hx2
  go_wp2_with fail
  go_ret2
  unfold Plc32Post
  rw [HV.out, HOk.out]
  exact ⟨GA, gc, rfl, HG.out, HX2.out⟩
theorem eql_gl (a b : Gl) (w : World) : (binOp .eql 58 a.aggV b.aggV).run Tryz.prog w = .ok (.bool (decide (a = b))) w := by
  obtain ⟨a1, a2, a3, a4, a5, a6⟩ := a
  obtain ⟨b1, b2, b3, b4, b5, b6⟩ := b
  unfold Gl.aggV
  dsimp only
  go_simp
  repeat' split
  all_goals simp_all
theorem eql_gl_no (a b : Gl) (h : ¬ a = b) (w : World) : (binOp .eql 58 a.aggV b.aggV).run Tryz.prog w = .ok (.bool false) w := by rw [eql_gl, decide_eq_false h]
theorem eql_gl_yes (a : Gl) (w : World) : (binOp .eql 58 a.aggV a.aggV).run Tryz.prog w = .ok (.bool true) w := by rw [eql_gl, decide_eq_true rfl]
set_option maxRecDepth 100000 in
set_option maxHeartbeats 2000000 in
theorem Has32_any (A : Option Addr) (n c : Nat) (l : List Gl) (g : Gl) (w : World) (hl : GlsAt w A n l) (hn : n ≤ 1000000) :
    Calls Tryz.prog 24 #[.slice A n c, g.aggV] w fun e w' => e = .returned (.bool (decide (g ∈ l))) ∧ Ext w w' := by
  have HL := Lib.hid hl
  have HLn := Lib.hid hl.len
  have HX0 := Lib.hid ((Ext.refl w).alloc (.cells #[.int .i64 g.row, .int .i64 g.col, .int .i32 g.ch, .int .u8 g.color, .bool g.italic, .bool g.under] 58))
  have HB0 := Lib.hid (Blk.new w 58 #[.int .i64 g.row, .int .i64 g.col, .int .i32 g.ch, .int .u8 g.color, .bool g.italic, .bool g.under])
  clear hl
  unfold Gl.aggV
  go_enter Tryz.func24, Tryz.ntmps24
  go_wp2_with fail
  generalize w.alloc (.cells #[.int .i64 g.row, .int .i64 g.col, .int .i32 g.ch, .int .u8 g.color, .bool g.italic, .bool g.under] 58) = W0 at *
  go_loopw [9] (fun i wr => ∃ k : Nat, k ≤ n ∧ i = .int .i64 k ∧ Ext W0 wr ∧ ¬ g ∈ l.take k) (fun i _ => n - (intOf i).toNat)
  case atStart => exact ⟨0, Nat.zero_le _, rfl, Ext.refl _, by simp⟩
  case round =>
    obtain ⟨k, hk, rfl, hx, hm⟩ := hrel
    have HX := Lib.hid hx
    have HM := Lib.hid hm
    clear hx hm
    by_cases hlt : k < n
    · obtain ⟨b, off, y, rfl, hy, c0, c1, c2, c3, c4, c5⟩ := (HL.out.ext (HX0.out.trans HX.out)).at6 hlt
      have HY := Lib.hid hy
      clear hy
      go_upto_region 4 with fail
      clear c0 c1 c2 c3 c4 c5
      have HBy := Lib.hid (Blk.new wr 58 #[.int .i64 y.row, .int .i64 y.col, .int .i32 y.ch, .int .u8 y.color, .bool y.italic, .bool y.under])
      have HX1 := Lib.hid (HX.out.alloc (.cells #[.int .i64 y.row, .int .i64 y.col, .int .i32 y.ch, .int .u8 y.color, .bool y.italic, .bool y.under] 58))
      have HB1 := Lib.hid (HB0.out.ext HX1.out)
      generalize wr.alloc (.cells #[.int .i64 y.row, .int .i64 y.col, .int .i32 y.ch, .int .u8 y.color, .bool y.italic, .bool y.under] 58) = W1 at *
      by_cases hq : y = g
      · subst hq
        have HIn : Hid (y ∈ l) := List.mem_of_getElem? HY.out
        have hne := fun w => eql_gl_yes y w
        unfold Gl.aggV at hne
        go_wp2_with (first | (refine wpList_loadB rfl 58 (.tmp 6) rfl wr.heap.size 58 _ _ (by exact rfl) (by exact HBy.out) Tryz.underlying58 rfl (by exact size_gl) ?_) | (refine wpList_loadB rfl 58 (.tmp 3) rfl w.heap.size 58 _ _ (by exact rfl) (by exact HB1.out) Tryz.underlying58 rfl (by exact size_gl) ?_))
        go_ret
        exact ⟨ret_bool (decide_eq_true HIn.out).symm, HX0.out.trans HX1.out⟩
      · have hne := fun w => eql_gl_no y g hq w
        unfold Gl.aggV at hne
        have HNx : Hid (¬ g ∈ l.take (k + 1)) := by
          show ¬ _
          rw [take_snoc' l k y HY.out, List.mem_append, List.mem_singleton]
          rintro (h | h)
          · exact HM.out h
          · exact hq h.symm
        clear hq
        go_wp2_with (first | (refine wpList_loadB rfl 58 (.tmp 6) rfl wr.heap.size 58 _ _ (by exact rfl) (by exact HBy.out) Tryz.underlying58 rfl (by exact size_gl) ?_) | (refine wpList_loadB rfl 58 (.tmp 3) rfl w.heap.size 58 _ _ (by exact rfl) (by exact HB1.out) Tryz.underlying58 rfl (by exact size_gl) ?_))
        exact ⟨⟨k + 1, by omega, by go_num, HX1.out, HNx.out⟩, by simp [intOf]; omega⟩
    · have HNx : Hid (¬ g ∈ l) := by
        have := HM.out
        rw [List.take_of_length_le (by rw [HLn.out]; omega)] at this
        exact this
      go_wp2_with fail
      go_ret
      exact ⟨ret_bool (decide_eq_false HNx.out).symm, HX0.out.trans HX.out⟩
end Go.Proofs.YtajbhfmdmajpmaaGreatDoor

/-! LawScreens32 -/
namespace Go.Proofs.YtajbhfmdmajpmaaGreatDoor
set_option linter.unusedVariables false
set_option linter.unusedSimpArgs false
open Go.RowKit
set_option maxRecDepth 100000 in
set_option maxHeartbeats 8000000 in
theorem DisplayScreens_any (d : Doc) (h : DocH) (f : Int) (w : World) (hE : Env w) (hat : DocAt w d h) (hi : DocIn d h) :
    Calls Tryz.prog 3 #[.agg (d.cells h), .int .i64 f] w fun en w' => en = .returned (.bool true) ∧ Ext w w' := by
  have HX0 : Hid (Ext w (w.alloc (.cells (d.cells h) 27))) := (Ext.refl w).alloc _
  have HB0 : Hid (Blk (w.alloc (.cells (d.cells h) 27)) w.heap.size 27 (d.cells h)) := Blk.new w _ _
  have HAw := Lib.hid (fun w' (hx : Ext w w') => awake32_any w' (hE.ext hx))
  have HSm := Lib.hid (fun w' => Small_any d h w')
  have HHi := Lib.hid hi
  have HEn := Lib.hid hE
  have HAt := Lib.hid hat
  have HS1 := Lib.hid (fun w' (hx : Ext w w') => Screen_any d h f w' (hE.ext hx) (hat.ext hx) hi.fit hi.rn hi.en hi.cn)
  have HS2 := Lib.hid (fun w' (hx : Ext w w') => R32Screen_any d h f w' (hE.ext hx) (hat.ext hx) hi.fit hi.rn hi.en hi.cn)
  clear hE hat hi
  obtain ⟨ra, nr, rc, ea, en, ec, ca, nc, cc⟩ := h
  unfold Doc.cells at *
  dsimp only at *
  go_enter Tryz.func3, Tryz.ntmps3
  go_wp2_with fail
  refine (HAw.out _ HX0.out).mono ?_
  rintro en1 w1 ⟨rfl, hx1⟩
  have HX1 := Lib.hid (HX0.out.trans hx1)
  have HB1 := Lib.hid (HB0.out.ext hx1)
  clear hx1 HX0 HB0 HAw
  go_wp2_with (refine wpList_loadB rfl 27 (.tmp 2) rfl w.heap.size 27 _ _ (by exact rfl) (by exact HB1.out) Tryz.underlying27 rfl (by exact size_docI) ?_)
  refine (HSm.out _).mono ?_
  rintro en2 w2 ⟨rfl, hx2⟩
  have HX2 := Lib.hid (HX1.out.trans hx2)
  have HB2 := Lib.hid (HB1.out.ext hx2)
  clear hx2 HX1 HB1 HSm
  by_cases hsm : en ≤ 40 ∧ nr ≤ 40 ∧ nc ≤ 100
  case neg =>
    rw [decide_eq_false hsm]
    clear hsm
    go_wp2_with fail
    go_ret
    exact ⟨rfl, HX2.out⟩
  rw [decide_eq_true hsm]
  have HSml := Lib.hid hsm
  clear hsm
  unfold ScreenPost at HS1 HS2
  have HLn := Lib.hid (dscreen_480 d f)
  generalize d.screen f = sl at *
  generalize d.scrErr f = se at *
  go_wp2_with (refine wpList_loadB rfl 27 (.tmp 2) rfl w.heap.size 27 _ _ (by exact rfl) (by exact HB2.out) Tryz.underlying27 rfl (by exact size_docI) ?_)
  refine (HS1.out _ HX2.out).mono ?_
  rintro en3 w3 ⟨A1, c1, rfl, hg1, hc1, hx3, -⟩
  have HG1 := Lib.hid hg1
  have HX3 := Lib.hid (HX2.out.trans hx3)
  have HB3 := Lib.hid (HB2.out.ext hx3)
  clear hg1 hx3 HX2 HB2 HS1
  go_wp2_with (refine wpList_loadB rfl 27 (.tmp 2) rfl w.heap.size 27 _ _ (by exact rfl) (by exact HB3.out) Tryz.underlying27 rfl (by exact size_docI) ?_)
  refine (HS2.out _ HX3.out).mono ?_
  rintro en4 w4 ⟨A2, c2, rfl, hg2, hc2, hx4, -⟩
  have HX4 := Lib.hid (HX3.out.trans hx4)
  have HSame := Lib.hid (fun w' (hx : Ext w4 w') => R32Same_any A1 sl.length c1 A2 sl.length c2 sl sl w' ((HG1.out.ext hx4).ext hx) (hg2.ext hx) (by have := HLn.out; omega))
  clear hg2 hx4 HX3 HB3 HS2 HG1
  go_wp2_with fail
  refine (HSame.out _ (Ext.refl _)).mono ?_
  rintro en5 w5 ⟨rfl, hx5⟩
  have HX5 := Lib.hid (HX4.out.trans hx5)
  clear hx5 HSame
  simp only [decide_true]
  go_wp2_with fail
  go_ret
  exact ⟨rfl, HX5.out⟩
end Go.Proofs.YtajbhfmdmajpmaaGreatDoor

/-! OpenX -/
namespace Go.Proofs.YtajbhfmdmajpmaaGreatDoor
set_option linter.unusedVariables false
set_option linter.unusedSimpArgs false
open Go.RowKit Go.ChangeShapes Go.WideShapes Go.ChangeAt
set_option maxRecDepth 100000
theorem argX_int64 {H : Type} {enc : TypeId × Value → H} {W : World} {base : Nat} {v : Value} {d : DataW H} {p : List MemPlace} (hv : Value.okWide Tryz.prog W .any base 2 v) (h : DataW.Trod enc Tryz.prog W 0 (fun _ => true) true 2 v d p)
    (hw : ∀ n ∈ d.weights Tryz.prog 2, n ≤ reachBytes) : ∃ a : Int, v = .int .i64 a := by
  obtain ⟨fuel, h⟩ := h
  obtain ⟨a, ha, hb⟩ := Opens.int Tryz.underlying2 H enc fuel _ _ h hw
  unfold Value.okWide at hv
  rw [Tryz.underlying2] at hv
  cases v with
  | agg cs => exact absurd hv (by unfold Cell.okWide; rw [Tryz.underlying2]; simp [Cell.ok])
  | _ => first | (refine ⟨a, ?_⟩; exact (List.cons.inj ha).1) | (simp at hv; done)
theorem cells_glyph : Tryz.prog.cellsOf 58 = 6 := by kernel_rfl
theorem bytes_glyph : Tryz.prog.bytesOf 58 = 24 := by kernel_rfl
theorem open_glyph (W : World) : Opens Tryz.prog W 58 (fun cs (g : Gl) => cs = g.vals) := by
  intro H enc fuel cs x h hw
  obtain ⟨hl, hf⟩ := Opens.fields Tryz.underlying58 h hw
  rw [cells_glyph] at hl
  obtain ⟨v0, v1, v2, v3, v4, v5, rfl⟩ := list_6 hl
  obtain ⟨a0, h0, s0⟩ := hf 0 _ rfl (Opens.int Tryz.underlying3)
  obtain ⟨a1, h1, s1⟩ := hf 1 _ rfl (Opens.int Tryz.underlying3)
  obtain ⟨a2, h2, s2⟩ := hf 2 _ rfl (Opens.int Tryz.underlying21)
  obtain ⟨⟨a3, a4, a5⟩, h3, s3⟩ := hf 3 _ rfl (open_style W)
  simp [cells_int, cells_style, show Tryz.prog.cellsOf 21 = 1 by kernel_rfl] at h0 h1 h2 h3
  obtain ⟨h3, h4, h5⟩ := h3
  subst h0 h1 h2 h3 h4 h5
  exact ⟨⟨a0, a1, a2, a3, a4, a5⟩, rfl⟩
theorem arg_glyphs {H : Type} {enc : TypeId × Value → H} {W : World} {base : Nat} {v : Value} {d : DataW H} {p : List MemPlace} (hv : Value.okWide Tryz.prog W .any base 30 v) (h : DataW.Trod enc Tryz.prog W 0 (fun _ => true) true 30 v d p)
    (hw : ∀ n ∈ d.weights Tryz.prog 30, n ≤ reachBytes) : ∃ A n c l, v = .slice A n c ∧ GlsAt W A n l := by
  obtain ⟨fuel, h⟩ := h
  obtain ⟨A, n, c, l, hc, hnc, hcm, hb, hs⟩ := Opens.slice Tryz.underlying30 cells_glyph (by decide) bytes_glyph (open_glyph W) h hw
  have hv' : v = .slice A n c := by
    unfold Value.okWide at hv
    rw [Tryz.underlying30] at hv
    cases v <;> simp [Value.cells] at hc <;> first | (obtain ⟨h1, h2, h3⟩ := hc; subst h1 h2 h3; rfl) | (simp [Cell.okWide, Tryz.underlying30, Cell.ok] at hv)
  refine ⟨A, n, c, l, hv', Sl.change hs fun b o r hm => ?_⟩
  obtain ⟨cs, h1, h2⟩ := hm
  subst h2
  exact h1
end Go.Proofs.YtajbhfmdmajpmaaGreatDoor

/-! LawSeen32 -/
namespace Go.Proofs.YtajbhfmdmajpmaaGreatDoor
set_option linter.unusedVariables false
set_option linter.unusedSimpArgs false
open Go.RowKit
theorem scrErr_ok {d : Doc} {f : Int} (h : d.scrErr f = 0) : d.err = 0 := by
  unfold Doc.scrErr at h
  by_cases h0 : d.err = 0
  · exact h0
  · rw [if_pos h0] at h; exact absurd h h0
theorem seen_at {d : Doc} {f : Int} (h : d.scrErr f = 0) : atS d.shw f = d.screen f := by
  have h0 := scrErr_ok h
  unfold Doc.shw Doc.screen
  rw [if_pos h0, if_pos h]
  exact (doc_shows d).2.2.2.2.1 f
theorem shw_480 (d : Doc) : ∀ x ∈ d.shw, x.scr.length ≤ 480 := by
  unfold Doc.shw
  split
  · exact shL_480 (scr_480 d) d.tms
  · simp
theorem shw_len (d : Doc) (hn : d.evs.length ≤ 1000) : d.shw.length ≤ 2000 := by
  unfold Doc.shw
  split
  · have h1 := shL_len d.scr d.tms
    have h2 := tms_len (evTs d.evs)
    have h3 := evTs_len d.evs
    unfold Doc.shows
    unfold Doc.tms at *
    omega
  · simp
set_option maxRecDepth 100000 in
set_option maxHeartbeats 8000000 in
theorem DisplaySeen_any (d : Doc) (h : DocH) (f : Int) (w : World) (hE : Env w) (hat : DocAt w d h) (hi : DocIn d h) :
    Calls Tryz.prog 7 #[.agg (d.cells h), .int .i64 f] w fun en w' => en = .returned (.bool true) ∧ Ext w w' := by
  have HX0 : Hid (Ext w (w.alloc (.cells (d.cells h) 27))) := (Ext.refl w).alloc _
  have HB0 : Hid (Blk (w.alloc (.cells (d.cells h) 27)) w.heap.size 27 (d.cells h)) := Blk.new w _ _
  have HAw := Lib.hid (fun w' (hx : Ext w w') => awake32_any w' (hE.ext hx))
  have HSm := Lib.hid (fun w' => Small_any d h w')
  have HHi := Lib.hid hi
  have HEn := Lib.hid hE
  have HAt := Lib.hid hat
  have HS1 := Lib.hid (fun w' (hx : Ext w w') => Screen_any d h f w' (hE.ext hx) (hat.ext hx) hi.fit hi.rn hi.en hi.cn)
  have HSh := Lib.hid (fun w' (hx : Ext w w') => Shows_any d h w' (hE.ext hx) (hat.ext hx) hi.fit hi.rn hi.en hi.cn)
  have HCk := Lib.hid (fun w' (hx : Ext w w') => DCheck_any d h w' (hE.ext hx) (hat.ext hx) hi.fit hi.rn hi.en (by have := hi.cn; omega))
  have HLe := Lib.hid hat.evs.len
  clear hE hat hi
  obtain ⟨ra, nr, rc, ea, en, ec, ca, nc, cc⟩ := h
  unfold Doc.cells at *
  dsimp only at *
  go_enter Tryz.func7, Tryz.ntmps7
  go_wp2_with fail
  refine (HAw.out _ HX0.out).mono ?_
  rintro en1 w1 ⟨rfl, hx1⟩
  have HX1 := Lib.hid (HX0.out.trans hx1)
  have HB1 := Lib.hid (HB0.out.ext hx1)
  clear hx1 HX0 HB0 HAw
  go_wp2_with (refine wpList_loadB rfl 27 (.tmp 2) rfl w.heap.size 27 _ _ (by exact rfl) (by exact HB1.out) Tryz.underlying27 rfl (by exact size_docI) ?_)
  refine (HSm.out _).mono ?_
  rintro en2 w2 ⟨rfl, hx2⟩
  have HX2 := Lib.hid (HX1.out.trans hx2)
  have HB2 := Lib.hid (HB1.out.ext hx2)
  clear hx2 HX1 HB1 HSm
  by_cases hsm : en ≤ 40 ∧ nr ≤ 40 ∧ nc ≤ 100
  case neg =>
    rw [decide_eq_false hsm]
    clear hsm
    go_wp2_with fail
    go_ret
    exact ⟨rfl, HX2.out⟩
  rw [decide_eq_true hsm]
  have HSml := Lib.hid hsm
  clear hsm
  have HLw : Hid (d.shw.length ≤ 2000) := shw_len d (by have := HSml.out; have := HLe.out; omega)
  have HL4 := Lib.hid (shw_480 d)
  have HLn := Lib.hid (dscreen_480 d f)
  unfold ShowsPost at HSh
  unfold ScreenPost at HS1
  go_wp2_with (refine wpList_loadB rfl 27 (.tmp 2) rfl w.heap.size 27 _ _ (by exact rfl) (by exact HB2.out) Tryz.underlying27 rfl (by exact size_docI) ?_)
  refine (HSh.out _ HX2.out).mono ?_
  rintro en3 w3 ⟨A1, c1, ps, rfl, hps, hS, hc1, hsc, hx3⟩
  have HPs := Lib.hid hps
  have hpl : ps.length = d.shw.length := by rw [← hps, List.length_map]
  have HS := Lib.hid hS
  have HSc := Lib.hid hsc
  have HX3 := Lib.hid (HX2.out.trans hx3)
  have HB3 := Lib.hid (HB2.out.ext hx3)
  have HPl := Lib.hid hpl
  clear hps hS hsc hx3 HX2 HB2 HSh hpl
  go_wp2_with (refine wpList_loadB rfl 27 (.tmp 2) rfl w.heap.size 27 _ _ (by exact rfl) (by exact HB3.out) Tryz.underlying27 rfl (by exact size_docI) ?_)
  refine (HS1.out _ HX3.out).mono ?_
  rintro en4 w4 ⟨A2, c2, rfl, hg2, hc2, hx4, -⟩
  have HG2 := Lib.hid hg2
  have HX4 := Lib.hid (HX3.out.trans hx4)
  have HB4 := Lib.hid (HB3.out.ext hx4)
  have HAt2 : Hid (∀ w', Ext w4 w' → Calls Tryz.prog 27 #[.slice A1 d.shw.length c1, .int .i64 f] w' fun e w'' => ∃ A' n' c', e = .returned (.slice A' n' c') ∧ GlsAt w'' A' n' (atS d.shw f) ∧ Ext w' w'') := fun w' hx => by
    have h1 := ShAt_any A1 c1 ps f w' (by rw [HPl.out]; exact Sl.ext (Cells.stays _) HS.out (hx4.trans hx)) (fun p hp => (HSc.out p hp).ext (hx4.trans hx)) (fun p hp => HL4.out p.1 (by rw [← HPs.out]; exact List.mem_map.2 ⟨p, hp, rfl⟩)) (by rw [HPl.out]; have := HLw.out; omega)
    rw [HPl.out, HPs.out] at h1
    exact h1
  clear hg2 hx4 HX3 HB3 HS1 HS HSc
  by_cases h0 : d.err = 0
  case neg =>
    have hne : (d.err != 0) = true := by simpa using h0
    clear h0
    go_wp2_with (refine wpList_loadB rfl 27 (.tmp 2) rfl w.heap.size 27 _ _ (by exact rfl) (by exact HB4.out) Tryz.underlying27 rfl (by exact size_docI) ?_)
    refine (HCk.out _ HX4.out).mono ?_
    rintro en5 w5 ⟨rfl, hx5⟩
    have HX5 := Lib.hid (HX4.out.trans hx5)
    clear hx5
    go_wp2_with fail
    go_ret
    exact ⟨rfl, HX5.out⟩
  by_cases h1 : d.scrErr f = 0
  case neg =>
    have hne : (d.scrErr f != 0) = true := by simpa using h1
    have hne0 : (d.err != 0) = false := by simpa using h0
    clear h1
    go_wp2_with (refine wpList_loadB rfl 27 (.tmp 2) rfl w.heap.size 27 _ _ (by exact rfl) (by exact HB4.out) Tryz.underlying27 rfl (by exact size_docI) ?_)
    refine (HCk.out _ HX4.out).mono ?_
    rintro en5 w5 ⟨rfl, hx5⟩
    have HX5 := Lib.hid (HX4.out.trans hx5)
    clear hx5
    go_wp2_with fail
    go_ret
    exact ⟨rfl, HX5.out⟩
  have HSe := Lib.hid (seen_at h1)
  rw [h0, h1]
  clear h0 h1 HCk
  go_wp2_with fail
  refine (HAt2.out _ (Ext.refl _)).mono ?_
  rintro en5 w5 ⟨A5, n5, c5, rfl, hg5, hx5⟩
  rw [HSe.out] at hg5
  have HX5 := Lib.hid (HX4.out.trans hx5)
  have HSame := Lib.hid (GSame_any A2 (d.screen f).length c2 A5 n5 c5 (d.screen f) (d.screen f) w5 (HG2.out.ext hx5) hg5 (by have := HLn.out; omega))
  clear hg5 hx5
  go_wp2_with fail
  refine HSame.out.mono ?_
  rintro en6 w6 ⟨rfl, hx6⟩
  have HX6 := Lib.hid (HX5.out.trans hx6)
  clear hx6 HSame
  simp only [decide_true]
  go_wp2_with fail
  go_ret
  exact ⟨rfl, HX6.out⟩
end Go.Proofs.YtajbhfmdmajpmaaGreatDoor
