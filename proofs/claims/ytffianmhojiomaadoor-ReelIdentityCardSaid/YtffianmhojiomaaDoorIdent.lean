/- The walks of reel.Identity and of the reference's Identity. -/
import Derived.Test.YtffianmhojiomaaDoorSwapP
import Derived.Test.YtffianmhojiomaaDoorJoinL
namespace Go.Proofs.YtffianmhojiomaaDoor
set_option linter.unusedVariables false
set_option linter.unusedSimpArgs false
open Go.RowKit

def idCells (nm : ByteArray) (f : Int) : Array Value := #[.int .i64 1, .string nm, .int .i64 0, .int .i64 0, .int .i64 f, .int .i64 1, .int .i64 1]
theorem id_at {w : World} {g : Nat} (hg : g = w.heap.size) (nm : ByteArray) (f r : Int) (drop : Bool) : CutsAt (w.alloc (.cells (idCells nm f) 67)) (some ⟨g, 0, none⟩) 1 (idE r drop nm f).cuts := by
  subst hg
  have hB := Blk.new w 67 (idCells nm f)
  refine ⟨rfl, fun _ => ⟨w.heap.size, 0, rfl, fun i x hx => ?_⟩⟩
  have hc := fun o => hB.cell o
  match i, hx with
  | 0, hx =>
    cases hx
    intro j u hu
    rw [hc]
    match j, hu with
    | 0, hu => exact hu
    | 1, hu => exact hu
    | 2, hu => exact hu
    | 3, hu => exact hu
    | 4, hu => exact hu
    | 5, hu => exact hu
    | 6, hu => exact hu
    | j + 7, hu => simp [Cut.vals] at hu
  | i + 1, hx => simp [idE] at hx

set_option maxRecDepth 100000 in
set_option maxHeartbeats 4000000 in
theorem Identity_any (r : Int) (drop : Bool) (nm : ByteArray) (f : Int) (w : World) (hE : Env w) (h0 : 0 ≤ r) (h1 : r ≤ 255) (hn : nm.size ≤ 140737488351232) (hf : I64 f) :
    Calls Tryd.prog 18 #[.int .u8 r, .bool drop, .string nm, .int .i64 f] w (EdlPost (identE r drop nm f) (edlErr (idE r drop nm f)) w) := by
  have HX0 := Lib.hid ((Ext.refl w).alloc (.cells edlZero 32))
  have HC := Lib.hid (id_at (w := w.alloc (.cells edlZero 32)) (g := w.heap.size + 1) (by simp) nm f r drop)
  have HX1 := Lib.hid (HX0.out.alloc (.cells (idCells nm f) 67))
  have HBr := Lib.hid ((Blk.new w 32 edlZero).alloc (.cells (idCells nm f) 67))
  have HXa := Lib.hid ((Ext.refl ((w.alloc (.cells edlZero 32)).alloc (.cells (idCells nm f) 67))).alloc (.cells edlZero 32))
  have HBa := Lib.hid (Blk.new' (w := (w.alloc (.cells edlZero 32)).alloc (.cells (idCells nm f) 67)) (g := w.heap.size + 2) (t := 32) (cs := edlZero) (by simp))
  have hok := idE_edlok (drop := drop) h0 h1 hn hf
  have HCk := Lib.hid (fun w' (hx : Ext ((w.alloc (.cells edlZero 32)).alloc (.cells (idCells nm f) 67)) w') => Check_any (idE r drop nm f) (some ⟨w.heap.size + 1, 0, none⟩) 1 1 w' (hE.ext (HX1.out.trans hx)) (HC.out.ext hx) (by decide) hok.r0 hok.r1 hok.title hok.fits)
  have HIo := Lib.hid (@ident_ok r drop nm f)
  have HIe := Lib.hid (@ident_err r drop nm f)
  have HId : Hid (idE r drop nm f = ⟨⟨#[]⟩, r, drop, [⟨1, nm, 0, 0, f, 1, 1⟩]⟩) := rfl
  clear hok hE
  unfold EdlPost
  generalize edlErr (idE r drop nm f) = er at *
  generalize hid : idE r drop nm f = E at *
  rw [hid] at *
  have hE4 : ∀ A n c, E.cells A n c = #[.string ⟨#[]⟩, .int .u8 r, .bool drop, .slice A n c] := fun A n c => by rw [HId.out]; rfl
  simp only [hE4] at HCk
  unfold edlZero idCells at *
  have HE4 := Lib.hid hE4
  clear hE4
  go_enter Tryd.func18, Tryd.ntmps18
  have HB2 := Lib.hid (HBa.out.put #[.string ⟨#[]⟩, .int .u8 r, .bool drop, .slice (some ⟨w.heap.size + 1, 0, none⟩) 1 1])
  have HBr2 := Lib.hid ((HBr.out.ext HXa.out).put_other (g' := w.heap.size + 2) (t' := 32) (by omega) #[.string ⟨#[]⟩, .int .u8 r, .bool drop, .slice (some ⟨w.heap.size + 1, 0, none⟩) 1 1])
  have HX2 := Lib.hid (HXa.out.put (g := w.heap.size + 2) (by simp) 32 #[.string ⟨#[]⟩, .int .u8 r, .bool drop, .slice (some ⟨w.heap.size + 1, 0, none⟩) 1 1])
  go_wp2_with (first | (refine wpList_storeB rfl 32 (.tmp 10) (.tmp 20) rfl (w.heap.size + 2) 32 _ _ (by exact rfl) (by exact rfl) (by exact HBa.out) (by exact rfl) (by exact size_list) (by simp [Value.oneCell']) ?_) | (refine wpList_loadB rfl 32 (.tmp 10) rfl (w.heap.size + 2) 32 _ _ (by exact rfl) (by exact HB2.out) Tryd.underlying32 rfl (by exact size_list) ?_))
  refine (HCk.out _ HX2.out).mono ?_
  rintro en w3 ⟨rfl, hx3⟩
  have HX3 := Lib.hid (HX2.out.trans hx3)
  have HB3 := Lib.hid (HB2.out.ext hx3)
  have HBr3 := Lib.hid (HBr2.out.ext hx3)
  clear hx3 HX2 HB2 HBr2 HBa HBr HXa
  by_cases hee : er = 0
  case neg =>
    have hne : (er != 0) = true := by simpa using hee
    have HEr := Lib.hid hee
    clear hee
    go_wp2_with (refine wpList_storeB rfl 32 (.tmp 8) (.tmp 25) rfl w.heap.size 32 _ _ (by exact rfl) (by exact rfl) (by exact HBr3.out) (by exact rfl) (by exact size_list) (by simp [Value.oneCell']) ?_)
    refine bodyPost_ret (v := .tuple #[.agg #[.string ⟨#[]⟩, .int .u8 0, .bool false, .slice none 0 0], .int .i64 er]) ?_ rfl ⟨none, 0, 0, by rw [HIe.out HEr.out]; rfl, by rw [HIe.out HEr.out]; exact Sl.nil, Nat.le_refl _, ?_⟩
    · exact results_B_tmp (P := Tryd.prog) Tryd.results18 (g := w.heap.size) rfl (by exact HBr3.out.put _) Tryd.underlying32 rfl size_list
    · exact (HX1.out.trans HX3.out).put (Nat.le_refl _) _ _
  case pos =>
    have HZ := Lib.hid hee
    subst hee
    go_wp2_with (first | (refine wpList_loadB rfl 32 (.tmp 10) rfl (w.heap.size + 2) 32 _ _ (by exact rfl) (by exact HB3.out) Tryd.underlying32 rfl (by exact size_list) ?_) | (refine wpList_storeB rfl 32 (.tmp 8) (.tmp 27) rfl w.heap.size 32 _ _ (by exact rfl) (by exact rfl) (by exact HBr3.out) (by exact rfl) (by exact size_list) (by simp [Value.oneCell']) ?_))
    refine bodyPost_ret (v := .tuple #[.agg #[.string ⟨#[]⟩, .int .u8 r, .bool drop, .slice (some ⟨w.heap.size + 1, 0, none⟩) 1 1], .int .i64 0]) ?_ rfl ⟨some ⟨w.heap.size + 1, 0, none⟩, 1, 1, by rw [HIo.out (by first | trivial | rfl), HE4.out], ?_, Nat.le_refl _, ?_⟩
    · exact results_B_tmp (P := Tryd.prog) Tryd.results18 (g := w.heap.size) rfl (by exact HBr3.out.put _) Tryd.underlying32 rfl size_list
    · rw [HIo.out (by first | trivial | rfl)]
      refine (HC.out.ext HX3.out).same fun ad had o => ?_
      obtain rfl := Option.some.inj had
      exact putB_cell_other (by show w.heap.size + 1 ≠ _; omega)
    · exact (HX1.out.trans HX3.out).put (Nat.le_refl _) _ _

set_option maxRecDepth 100000 in
set_option maxHeartbeats 4000000 in
theorem RIdentity_any (r : Int) (drop : Bool) (nm : ByteArray) (f : Int) (w : World) (h0 : 0 ≤ r) (h1 : r ≤ 255) (hn : nm.size ≤ 140737488351232) (hf : I64 f) :
    Calls Tryd.prog 19 #[.int .u8 r, .bool drop, .string nm, .int .i64 f] w (EdlPost (identE r drop nm f) (edlErr (idE r drop nm f)) w) := by
  have HX0 := Lib.hid ((Ext.refl w).alloc (.cells edlZero 25))
  have HC := Lib.hid (id_at (w := w.alloc (.cells edlZero 25)) (g := w.heap.size + 1) (by simp) nm f r drop)
  have HX1 := Lib.hid (HX0.out.alloc (.cells (idCells nm f) 67))
  have HBr := Lib.hid ((Blk.new w 25 edlZero).alloc (.cells (idCells nm f) 67))
  have HXa := Lib.hid ((Ext.refl ((w.alloc (.cells edlZero 25)).alloc (.cells (idCells nm f) 67))).alloc (.cells edlZero 25))
  have HBa := Lib.hid (Blk.new' (w := (w.alloc (.cells edlZero 25)).alloc (.cells (idCells nm f) 67)) (g := w.heap.size + 2) (t := 25) (cs := edlZero) (by simp))
  have hok := idE_edlok (drop := drop) h0 h1 hn hf
  have HCk := Lib.hid (fun w' (hx : Ext ((w.alloc (.cells edlZero 25)).alloc (.cells (idCells nm f) 67)) w') => RCheck_any (idE r drop nm f) (some ⟨w.heap.size + 1, 0, none⟩) 1 1 w' (HC.out.ext hx) (by decide) hok.r0 hok.r1 hok.title hok.fits)
  have HIo := Lib.hid (@ident_ok r drop nm f)
  have HIe := Lib.hid (@ident_err r drop nm f)
  have HId : Hid (idE r drop nm f = ⟨⟨#[]⟩, r, drop, [⟨1, nm, 0, 0, f, 1, 1⟩]⟩) := rfl
  clear hok 
  unfold EdlPost
  generalize edlErr (idE r drop nm f) = er at *
  generalize hid : idE r drop nm f = E at *
  rw [hid] at *
  have hE4 : ∀ A n c, E.cells A n c = #[.string ⟨#[]⟩, .int .u8 r, .bool drop, .slice A n c] := fun A n c => by rw [HId.out]; rfl
  simp only [hE4] at HCk
  unfold edlZero idCells at *
  have HE4 := Lib.hid hE4
  clear hE4
  go_enter Tryd.func19, Tryd.ntmps19
  have HB2 := Lib.hid (HBa.out.put #[.string ⟨#[]⟩, .int .u8 r, .bool drop, .slice (some ⟨w.heap.size + 1, 0, none⟩) 1 1])
  have HBr2 := Lib.hid ((HBr.out.ext HXa.out).put_other (g' := w.heap.size + 2) (t' := 25) (by omega) #[.string ⟨#[]⟩, .int .u8 r, .bool drop, .slice (some ⟨w.heap.size + 1, 0, none⟩) 1 1])
  have HX2 := Lib.hid (HXa.out.put (g := w.heap.size + 2) (by simp) 25 #[.string ⟨#[]⟩, .int .u8 r, .bool drop, .slice (some ⟨w.heap.size + 1, 0, none⟩) 1 1])
  go_wp2_with (first | (refine wpList_storeB rfl 25 (.tmp 10) (.tmp 20) rfl (w.heap.size + 2) 25 _ _ (by exact rfl) (by exact rfl) (by exact HBa.out) (by exact rfl) (by exact rsize_list) (by simp [Value.oneCell']) ?_) | (refine wpList_loadB rfl 25 (.tmp 10) rfl (w.heap.size + 2) 25 _ _ (by exact rfl) (by exact HB2.out) Tryd.underlying25 rfl (by exact rsize_list) ?_))
  refine (HCk.out _ HX2.out).mono ?_
  rintro en w3 ⟨rfl, hx3⟩
  have HX3 := Lib.hid (HX2.out.trans hx3)
  have HB3 := Lib.hid (HB2.out.ext hx3)
  have HBr3 := Lib.hid (HBr2.out.ext hx3)
  clear hx3 HX2 HB2 HBr2 HBa HBr HXa
  by_cases hee : er = 0
  case neg =>
    have hne : (er != 0) = true := by simpa using hee
    have HEr := Lib.hid hee
    clear hee
    go_wp2_with (refine wpList_storeB rfl 25 (.tmp 8) (.tmp 25) rfl w.heap.size 25 _ _ (by exact rfl) (by exact rfl) (by exact HBr3.out) (by exact rfl) (by exact rsize_list) (by simp [Value.oneCell']) ?_)
    refine bodyPost_ret (v := .tuple #[.agg #[.string ⟨#[]⟩, .int .u8 0, .bool false, .slice none 0 0], .int .i64 er]) ?_ rfl ⟨none, 0, 0, by rw [HIe.out HEr.out]; rfl, by rw [HIe.out HEr.out]; exact Sl.nil, Nat.le_refl _, ?_⟩
    · exact results_B_tmp (P := Tryd.prog) Tryd.results19 (g := w.heap.size) rfl (by exact HBr3.out.put _) Tryd.underlying25 rfl rsize_list
    · exact (HX1.out.trans HX3.out).put (Nat.le_refl _) _ _
  case pos =>
    have HZ := Lib.hid hee
    subst hee
    go_wp2_with (first | (refine wpList_loadB rfl 25 (.tmp 10) rfl (w.heap.size + 2) 25 _ _ (by exact rfl) (by exact HB3.out) Tryd.underlying25 rfl (by exact rsize_list) ?_) | (refine wpList_storeB rfl 25 (.tmp 8) (.tmp 27) rfl w.heap.size 25 _ _ (by exact rfl) (by exact rfl) (by exact HBr3.out) (by exact rfl) (by exact rsize_list) (by simp [Value.oneCell']) ?_))
    refine bodyPost_ret (v := .tuple #[.agg #[.string ⟨#[]⟩, .int .u8 r, .bool drop, .slice (some ⟨w.heap.size + 1, 0, none⟩) 1 1], .int .i64 0]) ?_ rfl ⟨some ⟨w.heap.size + 1, 0, none⟩, 1, 1, by rw [HIo.out (by first | trivial | rfl), HE4.out], ?_, Nat.le_refl _, ?_⟩
    · exact results_B_tmp (P := Tryd.prog) Tryd.results19 (g := w.heap.size) rfl (by exact HBr3.out.put _) Tryd.underlying25 rfl rsize_list
    · rw [HIo.out (by first | trivial | rfl)]
      refine (HC.out.ext HX3.out).same fun ad had o => ?_
      obtain rfl := Option.some.inj had
      exact putB_cell_other (by show w.heap.size + 1 ≠ _; omega)
    · exact (HX1.out.trans HX3.out).put (Nat.le_refl _) _ _
end Go.Proofs.YtffianmhojiomaaDoor
