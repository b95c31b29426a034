/- Texts laid together. -/
import Derived.OwnWalk
import Derived.Test.YtablhmobekmflaaGreatDoorCt15
import Derived.Test.YtablhmobekmflaaGreatDoorCt21
import Derived.Test.YtablhmobekmflaaGreatDoorCt14
set_option linter.unusedVariables false
set_option linter.unusedSimpArgs false
namespace Go.Proofs.YtablhmobekmflaaGreatDoor
section
open Go.RowKit Go.Maps
def evZ : Array Value := #[.int .i64 0, .int .i64 0, .int .i64 0, .string ⟨#[]⟩, .int .u8 0, .string ⟨#[]⟩, .slice none 0 0]
set_option maxRecDepth 100000 in
set_option maxHeartbeats 2000000 in
theorem Ev46_any (id a b : Int) (w : World) : Calls Tryz.prog 47 #[.int .i64 id, .int .i64 a, .int .i64 b] w fun e w' => ∃ g1 g2, e = .returned (.agg #[.int .i64 id, .int .i64 a, .int .i64 b, .string ⟨#[]⟩, .int .u8 1, .string ⟨#[]⟩, .slice (some ⟨g2, 0, none⟩) 1 1]) ∧
 Blk w' g1 171 #[.string ⟨#[72, 105]⟩, .int .u8 0, .bool false, .bool false, .string ⟨#[]⟩] ∧ Blk w' g2 174 #[.slice (some ⟨g1, 0, none⟩) 1 1] ∧ Ext w w' := by
 have HX := Lib.hid ((((Ext.refl w).alloc (.cells evZ 64)).alloc (.cells #[.string ⟨#[72, 105]⟩, .int .u8 0, .bool false, .bool false, .string ⟨#[]⟩] 171)).alloc (.cells #[.slice (some ⟨w.heap.size + 1, 0, none⟩) 1 1] 174))
 have HB := Lib.hid (((Blk.new w 64 evZ).alloc (.cells #[.string ⟨#[72, 105]⟩, .int .u8 0, .bool false, .bool false, .string ⟨#[]⟩] 171)).alloc (.cells #[.slice (some ⟨w.heap.size + 1, 0, none⟩) 1 1] 174))
 have H1 := Lib.hid ((Blk.new' (w := w.alloc (.cells evZ 64)) (g := w.heap.size + 1) (t := 171) (cs := #[.string ⟨#[72, 105]⟩, .int .u8 0, .bool false, .bool false, .string ⟨#[]⟩]) (by simp)).alloc (.cells #[.slice (some ⟨w.heap.size + 1, 0, none⟩) 1 1] 174))
 have H2 := Lib.hid (Blk.new' (w := (w.alloc (.cells evZ 64)).alloc (.cells #[.string ⟨#[72, 105]⟩, .int .u8 0, .bool false, .bool false, .string ⟨#[]⟩] 171)) (g := w.heap.size + 1 + 1) (t := 174) (cs := #[.slice (some ⟨w.heap.size + 1, 0, none⟩) 1 1]) (by simp))
 unfold evZ at *
 go_enter Tryz.func47, Tryz.ntmps47
 go_wp2_with (refine wpList_storeB rfl 64 (.tmp 6) _ rfl w.heap.size 64 _ _ (by exact rfl) (by exact rfl) (by exact HB.out) (by exact rfl) (by exact size_ev) (by simp [Value.oneCell']) ?_)
 refine bodyPost_ret (v := .agg #[.int .i64 id, .int .i64 a, .int .i64 b, .string ⟨#[]⟩, .int .u8 1, .string ⟨#[]⟩, .slice (some ⟨w.heap.size + 1 + 1, 0, none⟩) 1 1]) ?_ rfl ⟨_, _, rfl, H1.out.put_other (by omega) _, H2.out.put_other (by omega) _, HX.out.put (Nat.le_refl _) _ _⟩
 exact results_B (P := Tryz.prog) Tryz.results47 (g := w.heap.size) rfl (by exact HB.out.put _) Tryz.underlying64 rfl size_ev
theorem xRow_at {w : World} {g1 g2 : Nat} {e : Ev} (hr : e.rows = [[xRun]]) (h1 : Blk w g1 171 #[.string ⟨#[72, 105]⟩, .int .u8 0, .bool false, .bool false, .string ⟨#[]⟩]) (h2 : Blk w g2 174 #[.slice (some ⟨g1, 0, none⟩) 1 1]) : EvAt w e (some ⟨g2, 0, none⟩) 1 1 := by
 refine ⟨?_, Nat.le_refl _, by decide⟩
 rw [hr]
 have one : ∀ {α : Type} {C : World → Nat → Nat → α → Prop} {size g : Nat} {x : α}, C w g 0 x → Sl w size C (some ⟨g, 0, none⟩) 1 [x] := fun {α C size g x} h => by
  refine ⟨rfl, fun _ => ⟨g, 0, rfl, fun i y hy => ?_⟩⟩
  match i, hy with
  | 0, hy => simp at hy; subst hy; simpa using h
  | i + 1, hy => simp at hy
 exact one ⟨some ⟨g1, 0, none⟩, 1, 1, h2.cell 0, Nat.le_refl _, by decide, one ⟨h1.cell 0, h1.cell 1, h1.cell 2, h1.cell 3, h1.cell 4⟩⟩
theorem xDocs_at {w : World} {g1 g2 g3 g4 gE gR : Nat} (h1 : Blk w g1 171 #[.string ⟨#[72, 105]⟩, .int .u8 0, .bool false, .bool false, .string ⟨#[]⟩]) (h2 : Blk w g2 174 #[.slice (some ⟨g1, 0, none⟩) 1 1])
 (h3 : Blk w g3 171 #[.string ⟨#[72, 105]⟩, .int .u8 0, .bool false, .bool false, .string ⟨#[]⟩]) (h4 : Blk w g4 174 #[.slice (some ⟨g3, 0, none⟩) 1 1])
 (hE : Blk w gE 64 #[.int .i64 1, .int .i64 10, .int .i64 30, .string ⟨#[]⟩, .int .u8 1, .string ⟨#[]⟩, .slice (some ⟨g2, 0, none⟩) 1 1, .int .i64 2, .int .i64 40, .int .i64 50, .string ⟨#[]⟩, .int .u8 1, .string ⟨#[]⟩, .slice (some ⟨g4, 0, none⟩) 1 1]) (hR : Blk w gR 58 #[.string ⟨#[65]⟩, .string ⟨#[]⟩, .string ⟨#[]⟩, .int .u8 3, .bool false, .int .i64 2, .slice none 0 0, .slice (some ⟨gE, 0, none⟩) 2 2, .slice none 0 0]) : RDocsAt w (some ⟨gR, 0, none⟩) 1 xDocs := by
 refine ⟨rfl, fun _ => ⟨gR, 0, rfl, fun i y hy => ?_⟩⟩
 match i, hy with
 | i + 1, hy => simp [xDocs] at hy
 | 0, hy =>
  simp [xDocs] at hy
  subst hy
  refine ⟨⟨none, 0, 0, some ⟨gE, 0, none⟩, 2, 2, none, 0, 0⟩, fun j u hu => ?_, ⟨Sl.nil, ⟨rfl, fun _ => ⟨gE, 0, rfl, fun i y hy => ?_⟩⟩, Sl.nil⟩, ⟨by simp, by simp, by simp⟩⟩
  · simp only [Nat.zero_mul, Nat.zero_add]
    rw [hR.cell, ← hu, Array.getElem?_toList]
    rfl
  · match i, hy with
    | 0, hy =>
     obtain rfl : xE1 = y := by simpa [xDoc] using hy
     refine ⟨some ⟨g2, 0, none⟩, 1, 1, fun j u hu => ?_, xRow_at rfl h1 h2⟩
     have hj : j < 7 := (List.getElem?_eq_some_iff.1 hu).1
     simp only [Nat.zero_mul, Nat.zero_add]
     rw [hE.cell, ← hu]
     match j, hj with
     | 0, _ => rfl
     | 1, _ => rfl
     | 2, _ => rfl
     | 3, _ => rfl
     | 4, _ => rfl
     | 5, _ => rfl
     | 6, _ => rfl
    | 1, hy =>
     obtain rfl : xE2 = y := by simpa [xDoc] using hy
     refine ⟨some ⟨g4, 0, none⟩, 1, 1, fun j u hu => ?_, xRow_at rfl h3 h4⟩
     have hj : j < 7 := (List.getElem?_eq_some_iff.1 hu).1
     rw [hE.cell, ← hu]
     match j, hj with
     | 0, _ => rfl
     | 1, _ => rfl
     | 2, _ => rfl
     | 3, _ => rfl
     | 4, _ => rfl
     | 5, _ => rfl
     | 6, _ => rfl
    | i + 2, hy => simp [xDoc] at hy
theorem xCuts_at {w : World} {gC : Nat} (h : Blk w gC 91 #[.int .i64 1, .string ⟨#[65]⟩, .int .i64 0, .int .i64 0, .int .i64 20, .int .i64 1, .int .i64 1, .int .i64 2, .string ⟨#[65]⟩, .int .i64 25, .int .i64 20, .int .i64 30, .int .i64 1, .int .i64 1]) : CutsAt w (some ⟨gC, 0, none⟩) 2 xEdl.cuts := by
 refine ⟨rfl, fun _ => ⟨gC, 0, rfl, fun i y hy j u hu => ?_⟩⟩
 match i, hy with
 | 0, hy =>
  obtain rfl : xC1 = y := by simpa [xEdl] using hy
  have hj : j < 7 := (List.getElem?_eq_some_iff.1 hu).1
  simp only [Nat.zero_mul, Nat.zero_add]
  rw [h.cell, ← hu]
  match j, hj with
  | 0, _ => rfl
  | 1, _ => rfl
  | 2, _ => rfl
  | 3, _ => rfl
  | 4, _ => rfl
  | 5, _ => rfl
  | 6, _ => rfl
 | 1, hy =>
  obtain rfl : xC2 = y := by simpa [xEdl] using hy
  have hj : j < 7 := (List.getElem?_eq_some_iff.1 hu).1
  rw [h.cell, ← hu]
  match j, hj with
  | 0, _ => rfl
  | 1, _ => rfl
  | 2, _ => rfl
  | 3, _ => rfl
  | 4, _ => rfl
  | 5, _ => rfl
  | 6, _ => rfl
 | i + 2, hy => simp [xEdl] at hy
set_option maxRecDepth 100000 in
set_option maxHeartbeats 8000000 in
theorem awake46_any (w : World) (hE : Env w) (ht : TabU w) : Calls Tryz.prog 22 #[] w fun en w' => en = .returned (.bool true) ∧ Ext w w' := by
 have HEn := Lib.hid hE
 have HTn := Lib.hid ht
 clear hE ht
 have HXq := Lib.hid ((Ext.refl w).alloc (.cells #[.int .i64 1, .int .i64 1] 89))
 have HBq := Lib.hid (Blk.new w 89 #[.int .i64 1, .int .i64 1])
 go_enter Tryz.func22, Tryz.ntmps22
 go_upto_region 2 with fail
 obtain ⟨gq, hgq⟩ : ∃ gq, gq = w.heap.size := ⟨_, rfl⟩
 obtain ⟨wA, hwA⟩ : ∃ wA, wA = w.alloc (.cells #[.int .i64 1, .int .i64 1] 89) := ⟨_, rfl⟩
 rw [← hgq] at HBq
 rw [← hwA] at HXq HBq ⊢
 rw [← hgq]
 clear hwA hgq
 go_wp2_with fail
 refine (Ev46_any 1 10 30 _).mono ?_
 rintro e1 w1 ⟨g1, g2, rfl, hb1, hb2, hx1⟩
 have HX1 := Lib.hid (HXq.out.trans hx1)
 have HBq1 := Lib.hid (HBq.out.ext hx1)
 have H1 := Lib.hid hb1
 have H2 := Lib.hid hb2
 clear hb1 hb2 hx1 HXq HBq
 go_wp2_with fail
 refine (Ev46_any 2 40 50 _).mono ?_
 rintro e2 w2 ⟨g3, g4, rfl, hb3, hb4, hx2⟩
 have HX2 := Lib.hid (HX1.out.trans hx2)
 have HBq2 := Lib.hid (HBq1.out.ext hx2)
 have H1b := Lib.hid (H1.out.ext hx2)
 have H2b := Lib.hid (H2.out.ext hx2)
 have H3 := Lib.hid hb3
 have H4 := Lib.hid hb4
 clear hb3 hb4 hx2 HX1 HBq1 H1 H2
 go_upto_region 3 with fail
 obtain ⟨gE, hgE⟩ : ∃ gE, gE = w2.heap.size := ⟨_, rfl⟩
 rw [← hgE]
 obtain ⟨w3, hw3⟩ : ∃ w3, w3 = w2.alloc (.cells #[.int .i64 1, .int .i64 10, .int .i64 30, .string ⟨#[]⟩, .int .u8 1, .string ⟨#[]⟩, .slice (some ⟨g2, 0, none⟩) 1 1, .int .i64 2, .int .i64 40, .int .i64 50, .string ⟨#[]⟩, .int .u8 1, .string ⟨#[]⟩, .slice (some ⟨g4, 0, none⟩) 1 1] 64) := ⟨_, rfl⟩
 have HX3 := Lib.hid (HX2.out.alloc (.cells #[.int .i64 1, .int .i64 10, .int .i64 30, .string ⟨#[]⟩, .int .u8 1, .string ⟨#[]⟩, .slice (some ⟨g2, 0, none⟩) 1 1, .int .i64 2, .int .i64 40, .int .i64 50, .string ⟨#[]⟩, .int .u8 1, .string ⟨#[]⟩, .slice (some ⟨g4, 0, none⟩) 1 1] 64))
 have HBq3 := Lib.hid (HBq2.out.alloc (.cells #[.int .i64 1, .int .i64 10, .int .i64 30, .string ⟨#[]⟩, .int .u8 1, .string ⟨#[]⟩, .slice (some ⟨g2, 0, none⟩) 1 1, .int .i64 2, .int .i64 40, .int .i64 50, .string ⟨#[]⟩, .int .u8 1, .string ⟨#[]⟩, .slice (some ⟨g4, 0, none⟩) 1 1] 64))
 have H1c := Lib.hid (H1b.out.alloc (.cells #[.int .i64 1, .int .i64 10, .int .i64 30, .string ⟨#[]⟩, .int .u8 1, .string ⟨#[]⟩, .slice (some ⟨g2, 0, none⟩) 1 1, .int .i64 2, .int .i64 40, .int .i64 50, .string ⟨#[]⟩, .int .u8 1, .string ⟨#[]⟩, .slice (some ⟨g4, 0, none⟩) 1 1] 64))
 have H2c := Lib.hid (H2b.out.alloc (.cells #[.int .i64 1, .int .i64 10, .int .i64 30, .string ⟨#[]⟩, .int .u8 1, .string ⟨#[]⟩, .slice (some ⟨g2, 0, none⟩) 1 1, .int .i64 2, .int .i64 40, .int .i64 50, .string ⟨#[]⟩, .int .u8 1, .string ⟨#[]⟩, .slice (some ⟨g4, 0, none⟩) 1 1] 64))
 have H3c := Lib.hid (H3.out.alloc (.cells #[.int .i64 1, .int .i64 10, .int .i64 30, .string ⟨#[]⟩, .int .u8 1, .string ⟨#[]⟩, .slice (some ⟨g2, 0, none⟩) 1 1, .int .i64 2, .int .i64 40, .int .i64 50, .string ⟨#[]⟩, .int .u8 1, .string ⟨#[]⟩, .slice (some ⟨g4, 0, none⟩) 1 1] 64))
 have H4c := Lib.hid (H4.out.alloc (.cells #[.int .i64 1, .int .i64 10, .int .i64 30, .string ⟨#[]⟩, .int .u8 1, .string ⟨#[]⟩, .slice (some ⟨g2, 0, none⟩) 1 1, .int .i64 2, .int .i64 40, .int .i64 50, .string ⟨#[]⟩, .int .u8 1, .string ⟨#[]⟩, .slice (some ⟨g4, 0, none⟩) 1 1] 64))
 have HBE := Lib.hid (Blk.new w2 64 #[.int .i64 1, .int .i64 10, .int .i64 30, .string ⟨#[]⟩, .int .u8 1, .string ⟨#[]⟩, .slice (some ⟨g2, 0, none⟩) 1 1, .int .i64 2, .int .i64 40, .int .i64 50, .string ⟨#[]⟩, .int .u8 1, .string ⟨#[]⟩, .slice (some ⟨g4, 0, none⟩) 1 1])
 rw [← hgE] at HBE
 rw [← hw3] at HX3 HBq3 H1c H2c H3c H4c HBE ⊢
 have hz3 : w3.heap.size = gE + 1 := by rw [hw3, hgE, World.size_alloc]
 rw [← hz3]
 clear hw3 hgE HX2 HBq2 H1b H2b H3 H4
 obtain ⟨gR, hgR⟩ : ∃ gR, gR = w3.heap.size := ⟨_, rfl⟩
 rw [← hgR]
 obtain ⟨w4, hw4⟩ : ∃ w4, w4 = w3.alloc (.cells #[.string ⟨#[65]⟩, .string ⟨#[]⟩, .string ⟨#[]⟩, .int .u8 3, .bool false, .int .i64 2, .slice none 0 0, .slice (some ⟨gE, 0, none⟩) 2 2, .slice none 0 0] 58) := ⟨_, rfl⟩
 have HX4 := Lib.hid (HX3.out.alloc (.cells #[.string ⟨#[65]⟩, .string ⟨#[]⟩, .string ⟨#[]⟩, .int .u8 3, .bool false, .int .i64 2, .slice none 0 0, .slice (some ⟨gE, 0, none⟩) 2 2, .slice none 0 0] 58))
 have HBq4 := Lib.hid (HBq3.out.alloc (.cells #[.string ⟨#[65]⟩, .string ⟨#[]⟩, .string ⟨#[]⟩, .int .u8 3, .bool false, .int .i64 2, .slice none 0 0, .slice (some ⟨gE, 0, none⟩) 2 2, .slice none 0 0] 58))
 have H1d := Lib.hid (H1c.out.alloc (.cells #[.string ⟨#[65]⟩, .string ⟨#[]⟩, .string ⟨#[]⟩, .int .u8 3, .bool false, .int .i64 2, .slice none 0 0, .slice (some ⟨gE, 0, none⟩) 2 2, .slice none 0 0] 58))
 have H2d := Lib.hid (H2c.out.alloc (.cells #[.string ⟨#[65]⟩, .string ⟨#[]⟩, .string ⟨#[]⟩, .int .u8 3, .bool false, .int .i64 2, .slice none 0 0, .slice (some ⟨gE, 0, none⟩) 2 2, .slice none 0 0] 58))
 have H3d := Lib.hid (H3c.out.alloc (.cells #[.string ⟨#[65]⟩, .string ⟨#[]⟩, .string ⟨#[]⟩, .int .u8 3, .bool false, .int .i64 2, .slice none 0 0, .slice (some ⟨gE, 0, none⟩) 2 2, .slice none 0 0] 58))
 have H4d := Lib.hid (H4c.out.alloc (.cells #[.string ⟨#[65]⟩, .string ⟨#[]⟩, .string ⟨#[]⟩, .int .u8 3, .bool false, .int .i64 2, .slice none 0 0, .slice (some ⟨gE, 0, none⟩) 2 2, .slice none 0 0] 58))
 have HBEd := Lib.hid (HBE.out.alloc (.cells #[.string ⟨#[65]⟩, .string ⟨#[]⟩, .string ⟨#[]⟩, .int .u8 3, .bool false, .int .i64 2, .slice none 0 0, .slice (some ⟨gE, 0, none⟩) 2 2, .slice none 0 0] 58))
 have HBR := Lib.hid (Blk.new w3 58 #[.string ⟨#[65]⟩, .string ⟨#[]⟩, .string ⟨#[]⟩, .int .u8 3, .bool false, .int .i64 2, .slice none 0 0, .slice (some ⟨gE, 0, none⟩) 2 2, .slice none 0 0])
 rw [← hgR] at HBR
 rw [← hw4] at HX4 HBq4 H1d H2d H3d H4d HBEd HBR ⊢
 clear hw4 hgR hz3 HX3 HBq3 H1c H2c H3c H4c HBE
 have HDs : Hid (RDocsAt w4 (some ⟨gR, 0, none⟩) 1 xDocs) := xDocs_at H1d.out H2d.out H3d.out H4d.out HBEd.out HBR.out
 have q0 := HBq4.out.cell 0
 have q1 := HBq4.out.cell 1
 simp only [List.getElem?_toArray, List.getElem?_cons_zero, List.getElem?_cons_succ] at q0 q1
 clear H1d H2d H3d H4d HBEd HBR
 go_upto_region 4 with fail
 obtain ⟨gC, hgC⟩ : ∃ gC, gC = w4.heap.size := ⟨_, rfl⟩
 rw [← hgC]
 obtain ⟨w5, hw5⟩ : ∃ w5, w5 = w4.alloc (.cells #[.int .i64 1, .string ⟨#[65]⟩, .int .i64 0, .int .i64 0, .int .i64 20, .int .i64 1, .int .i64 1, .int .i64 2, .string ⟨#[65]⟩, .int .i64 25, .int .i64 20, .int .i64 30, .int .i64 1, .int .i64 1] 91) := ⟨_, rfl⟩
 have HX5 := Lib.hid (HX4.out.alloc (.cells #[.int .i64 1, .string ⟨#[65]⟩, .int .i64 0, .int .i64 0, .int .i64 20, .int .i64 1, .int .i64 1, .int .i64 2, .string ⟨#[65]⟩, .int .i64 25, .int .i64 20, .int .i64 30, .int .i64 1, .int .i64 1] 91))
 have HD5 := Lib.hid (HDs.out.ext ((Ext.refl w4).alloc (.cells #[.int .i64 1, .string ⟨#[65]⟩, .int .i64 0, .int .i64 0, .int .i64 20, .int .i64 1, .int .i64 1, .int .i64 2, .string ⟨#[65]⟩, .int .i64 25, .int .i64 20, .int .i64 30, .int .i64 1, .int .i64 1] 91)))
 have HBC := Lib.hid (Blk.new w4 91 #[.int .i64 1, .string ⟨#[65]⟩, .int .i64 0, .int .i64 0, .int .i64 20, .int .i64 1, .int .i64 1, .int .i64 2, .string ⟨#[65]⟩, .int .i64 25, .int .i64 20, .int .i64 30, .int .i64 1, .int .i64 1])
 rw [← hgC] at HBC
 rw [← hw5] at HX5 HD5 HBC ⊢
 have hz5 : w5.heap.size = gC + 1 := by rw [hw5, hgC, World.size_alloc]
 rw [← hz5]
 clear hw5 hgC q0 q1 HX4 HBq4 HDs
 have HCu := Lib.hid (xCuts_at HBC.out)
 obtain ⟨gL, hgL⟩ : ∃ gL, gL = w5.heap.size := ⟨_, rfl⟩
 rw [← hgL]
 obtain ⟨w6, hw6⟩ : ∃ w6, w6 = w5.alloc (.cells #[.string ⟨#[]⟩, .int .u8 3, .bool false, .slice (some ⟨gC, 0, none⟩) 2 2] 28) := ⟨_, rfl⟩
 have HX6 := Lib.hid (HX5.out.alloc (.cells #[.string ⟨#[]⟩, .int .u8 3, .bool false, .slice (some ⟨gC, 0, none⟩) 2 2] 28))
 have HD6 := Lib.hid (HD5.out.ext ((Ext.refl w5).alloc (.cells #[.string ⟨#[]⟩, .int .u8 3, .bool false, .slice (some ⟨gC, 0, none⟩) 2 2] 28)))
 have HC6 := Lib.hid (CutsAt.ext HCu.out ((Ext.refl w5).alloc (.cells #[.string ⟨#[]⟩, .int .u8 3, .bool false, .slice (some ⟨gC, 0, none⟩) 2 2] 28)))
 have HBL := Lib.hid (Blk.new w5 28 #[.string ⟨#[]⟩, .int .u8 3, .bool false, .slice (some ⟨gC, 0, none⟩) 2 2])
 rw [← hgL] at HBL
 rw [← hw6] at HX6 HD6 HC6 HBL ⊢
 clear hw6 hgL hz5 HX5 HD5 HBC HCu
 have HCon := Lib.hid (Conform_any xDocs (some ⟨gR, 0, none⟩) 1 1 xEdl (some ⟨gC, 0, none⟩) 2 2 6 w6 (HEn.out.ext HX6.out) HD6.out HC6.out (by decide) xEdlOk (by decide) xFit)
 unfold ConPost at HCon
 rw [xConDoc, xConFats, xE] at HCon
 unfold Edl.cells xEdl at HCon
 dsimp only at HCon
 go_wp2_with (refine wpList_loadB rfl 28 (.tmp 3) rfl gL 28 _ _ (by exact rfl) (by exact HBL.out) Tryz.underlying28 rfl (by exact size_list) ?_)
 refine HCon.out.mono ?_
 rintro e7 w7 ⟨⟨ra, rn, rc, ea, en, ec, ca, cn, cc⟩, F, fc, rfl, hat, -, hF, hx7⟩
 have HX7 := Lib.hid (HX6.out.trans hx7)
 have hevs := hat.evs
 dsimp only at hevs
 obtain rfl : 2 = en := hevs.len
 obtain ⟨be, offe, ev1, A1, n1, c1, rfl, hv1, -, a0, a1, a2, a3, a4, a5, a6⟩ := hevs.at_ev (i := 0) (by decide)
 obtain ⟨be', offe', ev2, A2, n2, c2, hAe, hv2, -, b0, b1, b2, b3, b4, b5, b6⟩ := hevs.at_ev (i := 1) (by decide)
 cases hAe
 obtain rfl : xE1.as 1 ⟨10, 20⟩ = ev1 := by simpa [xOut] using hv1
 obtain rfl : xE1.as 2 ⟨20, 25⟩ = ev2 := by simpa [xOut] using hv2
 have a1' : w7.cell? ⟨be, offe + 1, none⟩ = some (.int .i64 10) := by simpa [Ev.as] using a1
 have a2' : w7.cell? ⟨be, offe + 1 + 1, none⟩ = some (.int .i64 20) := by simpa [Ev.as] using a2
 have b1' : w7.cell? ⟨be, offe + 7 + 1, none⟩ = some (.int .i64 20) := by simpa [Ev.as] using b1
 have b2' : w7.cell? ⟨be, offe + 7 + 1 + 1, none⟩ = some (.int .i64 25) := by simpa [Ev.as] using b2
 have HF := Lib.hid hF
 clear hat hx7 hF hevs hv1 hv2 a0 a1 a2 a3 a4 a5 a6 b0 b1 b2 b3 b4 b5 b6 HCon HX6 HD6 HC6 HBL
 unfold Doc.cells xOut
 dsimp only
 go_upto_region 5 with fail
 have HX8 := Lib.hid (HX7.out.alloc (.cells #[.string ⟨#[]⟩, .string ⟨#[]⟩, .int .u8 3, .bool false, .int .i64 2, .slice ra rn rc, .slice (some ⟨be, offe, none⟩) 2 ec, .slice ca cn cc] 52))
 have HF8 := Lib.hid (HF.out.ext ((Ext.refl w7).alloc (.cells #[.string ⟨#[]⟩, .string ⟨#[]⟩, .int .u8 3, .bool false, .int .i64 2, .slice ra rn rc, .slice (some ⟨be, offe, none⟩) 2 ec, .slice ca cn cc] 52)))
 have e0 : ∀ o, (w7.alloc o).cell? ⟨be, offe + 1, none⟩ = some (.int .i64 10) := fun o => ((Ext.refl w7).alloc o).cell a1'
 have e1 : ∀ o, (w7.alloc o).cell? ⟨be, offe + 1 + 1, none⟩ = some (.int .i64 20) := fun o => ((Ext.refl w7).alloc o).cell a2'
 have e1b : ∀ o, (w7.alloc o).cell? ⟨be, offe + 2, none⟩ = some (.int .i64 20) := fun o => ((Ext.refl w7).alloc o).cell a2'
 have e2 : ∀ o, (w7.alloc o).cell? ⟨be, offe + 7 + 1, none⟩ = some (.int .i64 20) := fun o => ((Ext.refl w7).alloc o).cell b1'
 have e3 : ∀ o, (w7.alloc o).cell? ⟨be, offe + 7 + 1 + 1, none⟩ = some (.int .i64 25) := fun o => ((Ext.refl w7).alloc o).cell b2'
 have e3b : ∀ o, (w7.alloc o).cell? ⟨be, offe + 7 + 2, none⟩ = some (.int .i64 25) := fun o => ((Ext.refl w7).alloc o).cell b2'
 have hq1 : ∀ w : World, (binOp .neq 60 (.agg #[.int .i64 10, .int .i64 20]) (.agg #[.int .i64 10, .int .i64 20])).run Tryz.prog w = .ok (.bool false) w := fun w => by kernel_rfl
 have hq2 : ∀ w : World, (binOp .neq 60 (.agg #[.int .i64 20, .int .i64 25]) (.agg #[.int .i64 20, .int .i64 25])).run Tryz.prog w = .ok (.bool false) w := fun w => by kernel_rfl
 clear a1' a2' b1' b2'
 have HOr := Lib.hid (fun w' (hx : FatsAt w' F 2 [xF1, xF2]) => Origin_any F 2 fc [xF1, xF2] 2 w' hx (by decide) xTx.fit)
 have HTx := Lib.hid (fun w' (hx : FatsAt w' F 2 [xF1, xF2]) (ht : TabU w') => Text_any F 2 fc [xF1, xF2] w' hx (by decide) xTx ht)
 rw [xOrig] at HOr
 rw [xText] at HTx
 dsimp only at HOr
 go_wp2_with fail
 refine (HOr.out _ HF8.out).mono ?_
 rintro e9 w9 ⟨rfl, hx9⟩
 have HX9 := Lib.hid (HX8.out.trans hx9)
 have HF9 := Lib.hid (HF8.out.ext hx9)
 clear hx9 HOr
 go_wp2_with fail
 refine (HTx.out _ HF9.out (HTn.out.ext HX9.out)).mono ?_
 rintro e10 w10 ⟨rfl, hx10⟩
 have HX10 := Lib.hid (HX9.out.trans hx10)
 clear hx10 HTx
 go_wp2_with fail
 go_ret
 exact ⟨by rfl, HX10.out⟩
end
section
open Go.RowKit
theorem dec_pow : ∀ (k n : Nat), n < 10 ^ (k + 1) → (Lib.decDigits n).length ≤ k + 1
 | 0, n, h => by rw [Lib.decDigits, dif_pos (by simpa using h)]; simp
 | k + 1, n, h => by
  rw [Lib.decDigits]
  split
  · simp
  · have := dec_pow k (n / 10) (by rw [Nat.pow_succ] at h; omega)
    simp
    omega
theorem decB_few {n : Int} (h : IW n) : (decB n).size ≤ 21 := by
 have h1 := dec_pow 19 n.natAbs (by obtain ⟨h1, h2⟩ := h; omega)
 have h2 : (decB n).size = (Lib.itoa n).length := by simp [decB, ByteArray.size]
 rw [h2]
 unfold Lib.itoa
 split
 · simp; omega
 · rename_i h3
   have : n.toNat = n.natAbs := by omega
   rw [this]; omega
theorem lineF_few {f : Fat} (h1 : IW f.id) (h2 : IW f.lost) (h3 : f.parts.length ≤ 4611686018427387904) (h4 : f.short.length ≤ 4611686018427387904) : (lineF f).data.toList.length ≤ f.reel.size + 1000 := by
 have hz := congrArg ByteArray.size (lineF_cat f)
 simp only [ByteArray.size_append] at hz
 have hl : (lineF f).data.toList.length = (lineF f).size := by simp
 have a1 := decB_few h1
 have a2 := decB_few h2
 have a3 := decB_few (n := (f.parts.length : Int)) ⟨by omega, by omega⟩
 have a4 := decB_few (n := (f.short.length : Int)) ⟨by omega, by omega⟩
 have a5 : (wordN f.parts.length f.lost).size ≤ 100 := by
  unfold wordN
  repeat' split
  all_goals decide
 have b1 : (⟨#[32]⟩ : ByteArray).size = 1 := rfl
 have b2 : (⟨#[10]⟩ : ByteArray).size = 1 := rfl
 omega
theorem textF_few : ∀ {l : List Fat}, FatsIn l → (textF l).length ≤ l.length * 1050000
 | [], _ => by simp [textF]
 | f :: l, h => by
  have h1 := lineF_few (h.id f (by simp)) (h.lost f (by simp)) (h.fit.parts f (by simp)) (h.fit.short f (by simp))
  have h2 := h.reel f (by simp)
  have h3 := textF_few (l := l) ⟨⟨fun x hx => h.fit.parts x (by simp [hx]), fun x hx => h.fit.short x (by simp [hx])⟩, fun x hx => h.id x (by simp [hx]), fun x hx => h.lost x (by simp [hx]), fun x hx => h.reel x (by simp [hx])⟩
  have h4 : textF (f :: l) = (lineF f).data.toList ++ textF l := by simp [textF]
  rw [h4, List.length_append, List.length_cons]
  omega
theorem fatsTx {l : List Fat} (h : FatsIn l) (hn : l.length ≤ 100) : FatsTx l := ⟨h.id, h.lost, h.fit, by have := textF_few h; omega⟩
set_option maxRecDepth 100000 in
set_option maxHeartbeats 4000000 in
theorem ConformTexts_any (A : Option Addr) (n c : Nat) (l : List Fat) (id : Int) (w : World) (hE : Env w) (ht : TabU w) (hl : FatsAt w A n l) (hi : FatsIn l) :
 Calls Tryz.prog 6 #[.slice A n c, .int .i64 id] w fun en w' => en = .returned (.bool true) ∧ Ext w w' := by
 have HX := Lib.hid (Ext.refl w)
 have HAw := Lib.hid (fun w' (hx : Ext w w') => awake46_any w' (hE.ext hx) (ht.ext hx))
 have HO1 := Lib.hid (fun w' (hx : Ext w w') (hn : n ≤ 100) => Origin_any A n c l id w' (hl.ext hx) (by omega) hi.fit)
 have HO2 := Lib.hid (fun w' (hx : Ext w w') (hn : n ≤ 100) => ROrigin_any A n c l id w' (hl.ext hx) (by omega) hi.fit)
 have HT1 := Lib.hid (fun w' (hx : Ext w w') (hn : n ≤ 100) => Text_any A n c l w' (hl.ext hx) (by omega) (fatsTx hi (by have := hl.len; omega)) (ht.ext hx))
 have HT2 := Lib.hid (fun w' (hx : Ext w w') (hn : n ≤ 100) => RText_any A n c l w' (hl.ext hx) (by omega) (fatsTx hi (by have := hl.len; omega)))
 clear hE ht hl hi
 generalize orig l id = r at *
 generalize (⟨(textF l).toArray⟩ : ByteArray) = T at *
 obtain ⟨r1, r2, r3⟩ := r
 dsimp only at HO1 HO2
 go_enter Tryz.func6, Tryz.ntmps6
 go_wp2_with fail
 refine (HAw.out _ HX.out).mono ?_
 rintro en w_1 ⟨rfl, hx_2⟩
 have HX_3 := Lib.hid (HX.out.trans hx_2)
 clear hx_2 HX
 by_cases hn : n ≤ 100
 case neg =>
  have hni : ¬ (n : Int) ≤ 100 := by omega
  go_wp2_with fail
  go_ret
  exact ⟨rfl, HX_3.out⟩
 have hni : (n : Int) ≤ 100 := by omega
 go_wp2_with fail
 refine (HO1.out _ HX_3.out hn).mono ?_
 rintro en w_4 ⟨rfl, hx_5⟩
 have HX_6 := Lib.hid (HX_3.out.trans hx_5)
 clear hx_5 HX_3
 go_wp2_with fail
 refine (HO2.out _ HX_6.out hn).mono ?_
 rintro en w_7 ⟨rfl, hx_8⟩
 have HX_9 := Lib.hid (HX_6.out.trans hx_8)
 clear hx_8 HX_6
 have hs : (r1.toList == r1.toList) = true := by simp
 go_wp2_with fail
 refine (HT1.out _ HX_9.out hn).mono ?_
 rintro en w_10 ⟨rfl, hx_11⟩
 have HX_12 := Lib.hid (HX_9.out.trans hx_11)
 clear hx_11 HX_9
 go_wp2_with fail
 refine (HT2.out _ HX_12.out hn).mono ?_
 rintro en w_13 ⟨rfl, hx_14⟩
 have HX_15 := Lib.hid (HX_12.out.trans hx_14)
 clear hx_14 HX_12
 have hT : (T.toList == T.toList) = true := by simp
 go_wp2_with fail
 go_ret
 exact ⟨by first | rfl | simp, HX_15.out⟩
end
end Go.Proofs.YtablhmobekmflaaGreatDoor