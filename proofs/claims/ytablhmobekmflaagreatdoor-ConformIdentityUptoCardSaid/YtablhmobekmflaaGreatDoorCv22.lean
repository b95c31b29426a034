/- Laid together: The walk of the law package's awake: the chapter's example. The walk of the law ConformChecks. Printed by gensml46.py. Equality of sets and of maps; whether a frame is in a set. The walk of the law ReelMaps. Conforming: the conformed document is accepted; plainly. The walk of the law ConformValid. Printed by genlaws46.py. -/
import Derived.OwnWalk
import Derived.Test.YtablhmobekmflaaGreatDoorCv17
import Derived.Test.YtablhmobekmflaaGreatDoorCv21
import Derived.Test.YtablhmobekmflaaGreatDoorCv15
import Derived.Test.YtablhmobekmflaaGreatDoorCv16
import Derived.Test.YtablhmobekmflaaGreatDoorCv11
import Derived.Test.YtablhmobekmflaaGreatDoorCv13
import Derived.Test.YtablhmobekmflaaGreatDoorCv20
import Derived.Test.YtablhmobekmflaaGreatDoorCv18
import Derived.Test.YtablhmobekmflaaGreatDoorCv08
set_option linter.unusedVariables false
set_option linter.unusedSimpArgs false
/-! Awake46 -/
namespace Go.Proofs.YtablhmobekmflaaGreatDoor
open Go.RowKit Go.Maps
def evZ : Array Value := #[.int .i64 0, .int .i64 0, .int .i64 0, .string ⟨#[]⟩, .int .u8 0, .string ⟨#[]⟩, .slice none 0 0]
set_option maxRecDepth 100000 in
set_option maxHeartbeats 2000000 in
theorem Ev46_any (id a b : Int) (w : World) : Calls Tryz.prog 47 #[.int .i64 id, .int .i64 a, .int .i64 b] w fun e w' => ∃ g1 g2, e = .returned (.agg #[.int .i64 id, .int .i64 a, .int .i64 b, .string ⟨#[]⟩, .int .u8 1, .string ⟨#[]⟩, .slice (some ⟨g2, 0, none⟩) 1 1]) ∧
 Blk w' g1 171 #[.string ⟨#[72, 105]⟩, .int .u8 0, .bool false, .bool false, .string ⟨#[]⟩] ∧ Blk w' g2 174 #[.slice (some ⟨g1, 0, none⟩) 1 1] ∧ Ext w w' := by
 have HX := Lib.hid ((((Ext.refl w).alloc (.cells evZ 64)).alloc (.cells #[.string ⟨#[72, 105]⟩, .int .u8 0, .bool false, .bool false, .string ⟨#[]⟩] 171)).alloc (.cells #[.slice (some ⟨w.heap.size + 1, 0, none⟩) 1 1] 174))
 have HB := Lib.hid (((Blk.new w 64 evZ).alloc (.cells #[.string ⟨#[72, 105]⟩, .int .u8 0, .bool false, .bool false, .string ⟨#[]⟩] 171)).alloc (.cells #[.slice (some ⟨w.heap.size + 1, 0, none⟩) 1 1] 174))
 have H1 := Lib.hid ((Blk.new' (w := w.alloc (.cells evZ 64)) (g := w.heap.size + 1) (t := 171) (cs := #[.string ⟨#[72, 105]⟩, .int .u8 0, .bool false, .bool false, .string ⟨#[]⟩]) (by simp)).alloc (.cells #[.slice (some ⟨w.heap.size + 1, 0, none⟩) 1 1] 174))
 have H2 := Lib.hid (Blk.new' (w := (w.alloc (.cells evZ 64)).alloc (.cells #[.string ⟨#[72, 105]⟩, .int .u8 0, .bool false, .bool false, .string ⟨#[]⟩] 171)) (g := w.heap.size + 1 + 1) (t := 174) (cs := #[.slice (some ⟨w.heap.size + 1, 0, none⟩) 1 1]) (by simp))
 unfold evZ at *
 go_enter Tryz.func47, Tryz.ntmps47
 go_wp2_with (refine wpList_storeB rfl 64 (.tmp 6) _ rfl w.heap.size 64 _ _ (by exact rfl) (by exact rfl) (by exact HB.out) (by exact rfl) (by exact size_ev) (by simp [Value.oneCell']) ?_)
 refine bodyPost_ret (v := .agg #[.int .i64 id, .int .i64 a, .int .i64 b, .string ⟨#[]⟩, .int .u8 1, .string ⟨#[]⟩, .slice (some ⟨w.heap.size + 1 + 1, 0, none⟩) 1 1]) ?_ rfl ⟨_, _, rfl, H1.out.put_other (by omega) _, H2.out.put_other (by omega) _, HX.out.put (Nat.le_refl _) _ _⟩
 exact results_B (P := Tryz.prog) Tryz.results47 (g := w.heap.size) rfl (by exact HB.out.put _) Tryz.underlying64 rfl size_ev
theorem xRow_at {w : World} {g1 g2 : Nat} {e : Ev} (hr : e.rows = [[xRun]]) (h1 : Blk w g1 171 #[.string ⟨#[72, 105]⟩, .int .u8 0, .bool false, .bool false, .string ⟨#[]⟩]) (h2 : Blk w g2 174 #[.slice (some ⟨g1, 0, none⟩) 1 1]) : EvAt w e (some ⟨g2, 0, none⟩) 1 1 := by
 refine ⟨?_, Nat.le_refl _, by decide⟩
 rw [hr]
 have one : ∀ {α : Type} {C : World → Nat → Nat → α → Prop} {size g : Nat} {x : α}, C w g 0 x → Sl w size C (some ⟨g, 0, none⟩) 1 [x] := fun {α C size g x} h => by
  refine ⟨rfl, fun _ => ⟨g, 0, rfl, fun i y hy => ?_⟩⟩
  match i, hy with
  | 0, hy => simp at hy; subst hy; simpa using h
  | i + 1, hy => simp at hy
 exact one ⟨some ⟨g1, 0, none⟩, 1, 1, h2.cell 0, Nat.le_refl _, by decide, one ⟨h1.cell 0, h1.cell 1, h1.cell 2, h1.cell 3, h1.cell 4⟩⟩
theorem xDocs_at {w : World} {g1 g2 g3 g4 gE gR : Nat} (h1 : Blk w g1 171 #[.string ⟨#[72, 105]⟩, .int .u8 0, .bool false, .bool false, .string ⟨#[]⟩]) (h2 : Blk w g2 174 #[.slice (some ⟨g1, 0, none⟩) 1 1])
 (h3 : Blk w g3 171 #[.string ⟨#[72, 105]⟩, .int .u8 0, .bool false, .bool false, .string ⟨#[]⟩]) (h4 : Blk w g4 174 #[.slice (some ⟨g3, 0, none⟩) 1 1])
 (hE : Blk w gE 64 #[.int .i64 1, .int .i64 10, .int .i64 30, .string ⟨#[]⟩, .int .u8 1, .string ⟨#[]⟩, .slice (some ⟨g2, 0, none⟩) 1 1, .int .i64 2, .int .i64 40, .int .i64 50, .string ⟨#[]⟩, .int .u8 1, .string ⟨#[]⟩, .slice (some ⟨g4, 0, none⟩) 1 1]) (hR : Blk w gR 58 #[.string ⟨#[65]⟩, .string ⟨#[]⟩, .string ⟨#[]⟩, .int .u8 3, .bool false, .int .i64 2, .slice none 0 0, .slice (some ⟨gE, 0, none⟩) 2 2, .slice none 0 0]) : RDocsAt w (some ⟨gR, 0, none⟩) 1 xDocs := by
 refine ⟨rfl, fun _ => ⟨gR, 0, rfl, fun i y hy => ?_⟩⟩
 match i, hy with
 | i + 1, hy => simp [xDocs] at hy
 | 0, hy =>
  simp [xDocs] at hy
  subst hy
  refine ⟨⟨none, 0, 0, some ⟨gE, 0, none⟩, 2, 2, none, 0, 0⟩, fun j u hu => ?_, ⟨Sl.nil, ⟨rfl, fun _ => ⟨gE, 0, rfl, fun i y hy => ?_⟩⟩, Sl.nil⟩, ⟨by simp, by simp, by simp⟩⟩
  · simp only [Nat.zero_mul, Nat.zero_add]
    rw [hR.cell, ← hu, Array.getElem?_toList]
    rfl
  · match i, hy with
    | 0, hy =>
     obtain rfl : xE1 = y := by simpa [xDoc] using hy
     refine ⟨some ⟨g2, 0, none⟩, 1, 1, fun j u hu => ?_, xRow_at rfl h1 h2⟩
     have hj : j < 7 := (List.getElem?_eq_some_iff.1 hu).1
     simp only [Nat.zero_mul, Nat.zero_add]
     rw [hE.cell, ← hu]
     match j, hj with
     | 0, _ => rfl
     | 1, _ => rfl
     | 2, _ => rfl
     | 3, _ => rfl
     | 4, _ => rfl
     | 5, _ => rfl
     | 6, _ => rfl
    | 1, hy =>
     obtain rfl : xE2 = y := by simpa [xDoc] using hy
     refine ⟨some ⟨g4, 0, none⟩, 1, 1, fun j u hu => ?_, xRow_at rfl h3 h4⟩
     have hj : j < 7 := (List.getElem?_eq_some_iff.1 hu).1
     rw [hE.cell, ← hu]
     match j, hj with
     | 0, _ => rfl
     | 1, _ => rfl
     | 2, _ => rfl
     | 3, _ => rfl
     | 4, _ => rfl
     | 5, _ => rfl
     | 6, _ => rfl
    | i + 2, hy => simp [xDoc] at hy
theorem xCuts_at {w : World} {gC : Nat} (h : Blk w gC 91 #[.int .i64 1, .string ⟨#[65]⟩, .int .i64 0, .int .i64 0, .int .i64 20, .int .i64 1, .int .i64 1, .int .i64 2, .string ⟨#[65]⟩, .int .i64 25, .int .i64 20, .int .i64 30, .int .i64 1, .int .i64 1]) : CutsAt w (some ⟨gC, 0, none⟩) 2 xEdl.cuts := by
 refine ⟨rfl, fun _ => ⟨gC, 0, rfl, fun i y hy j u hu => ?_⟩⟩
 match i, hy with
 | 0, hy =>
  obtain rfl : xC1 = y := by simpa [xEdl] using hy
  have hj : j < 7 := (List.getElem?_eq_some_iff.1 hu).1
  simp only [Nat.zero_mul, Nat.zero_add]
  rw [h.cell, ← hu]
  match j, hj with
  | 0, _ => rfl
  | 1, _ => rfl
  | 2, _ => rfl
  | 3, _ => rfl
  | 4, _ => rfl
  | 5, _ => rfl
  | 6, _ => rfl
 | 1, hy =>
  obtain rfl : xC2 = y := by simpa [xEdl] using hy
  have hj : j < 7 := (List.getElem?_eq_some_iff.1 hu).1
  rw [h.cell, ← hu]
  match j, hj with
  | 0, _ => rfl
  | 1, _ => rfl
  | 2, _ => rfl
  | 3, _ => rfl
  | 4, _ => rfl
  | 5, _ => rfl
  | 6, _ => rfl
 | i + 2, hy => simp [xEdl] at hy
set_option maxRecDepth 100000 in
set_option maxHeartbeats 8000000 in
theorem awake46_any (w : World) (hE : Env w) (ht : TabU w) : Calls Tryz.prog 22 #[] w fun en w' => en = .returned (.bool true) ∧ Ext w w' := by
 have HEn := Lib.hid hE
 have HTn := Lib.hid ht
 clear hE ht
 have HXq := Lib.hid ((Ext.refl w).alloc (.cells #[.int .i64 1, .int .i64 1] 89))
 have HBq := Lib.hid (Blk.new w 89 #[.int .i64 1, .int .i64 1])
 go_enter Tryz.func22, Tryz.ntmps22
 go_upto_region 2 with fail
 obtain ⟨gq, hgq⟩ : ∃ gq, gq = w.heap.size := ⟨_, rfl⟩
 obtain ⟨wA, hwA⟩ : ∃ wA, wA = w.alloc (.cells #[.int .i64 1, .int .i64 1] 89) := ⟨_, rfl⟩
 rw [← hgq] at HBq
 rw [← hwA] at HXq HBq ⊢
 rw [← hgq]
 clear hwA hgq
 go_wp2_with fail
 refine (Ev46_any 1 10 30 _).mono ?_
 rintro e1 w1 ⟨g1, g2, rfl, hb1, hb2, hx1⟩
 have HX1 := Lib.hid (HXq.out.trans hx1)
 have HBq1 := Lib.hid (HBq.out.ext hx1)
 have H1 := Lib.hid hb1
 have H2 := Lib.hid hb2
 clear hb1 hb2 hx1 HXq HBq
 go_wp2_with fail
 refine (Ev46_any 2 40 50 _).mono ?_
 rintro e2 w2 ⟨g3, g4, rfl, hb3, hb4, hx2⟩
 have HX2 := Lib.hid (HX1.out.trans hx2)
 have HBq2 := Lib.hid (HBq1.out.ext hx2)
 have H1b := Lib.hid (H1.out.ext hx2)
 have H2b := Lib.hid (H2.out.ext hx2)
 have H3 := Lib.hid hb3
 have H4 := Lib.hid hb4
 clear hb3 hb4 hx2 HX1 HBq1 H1 H2
 go_upto_region 3 with fail
 obtain ⟨gE, hgE⟩ : ∃ gE, gE = w2.heap.size := ⟨_, rfl⟩
 rw [← hgE]
 obtain ⟨w3, hw3⟩ : ∃ w3, w3 = w2.alloc (.cells #[.int .i64 1, .int .i64 10, .int .i64 30, .string ⟨#[]⟩, .int .u8 1, .string ⟨#[]⟩, .slice (some ⟨g2, 0, none⟩) 1 1, .int .i64 2, .int .i64 40, .int .i64 50, .string ⟨#[]⟩, .int .u8 1, .string ⟨#[]⟩, .slice (some ⟨g4, 0, none⟩) 1 1] 64) := ⟨_, rfl⟩
 have HX3 := Lib.hid (HX2.out.alloc (.cells #[.int .i64 1, .int .i64 10, .int .i64 30, .string ⟨#[]⟩, .int .u8 1, .string ⟨#[]⟩, .slice (some ⟨g2, 0, none⟩) 1 1, .int .i64 2, .int .i64 40, .int .i64 50, .string ⟨#[]⟩, .int .u8 1, .string ⟨#[]⟩, .slice (some ⟨g4, 0, none⟩) 1 1] 64))
 have HBq3 := Lib.hid (HBq2.out.alloc (.cells #[.int .i64 1, .int .i64 10, .int .i64 30, .string ⟨#[]⟩, .int .u8 1, .string ⟨#[]⟩, .slice (some ⟨g2, 0, none⟩) 1 1, .int .i64 2, .int .i64 40, .int .i64 50, .string ⟨#[]⟩, .int .u8 1, .string ⟨#[]⟩, .slice (some ⟨g4, 0, none⟩) 1 1] 64))
 have H1c := Lib.hid (H1b.out.alloc (.cells #[.int .i64 1, .int .i64 10, .int .i64 30, .string ⟨#[]⟩, .int .u8 1, .string ⟨#[]⟩, .slice (some ⟨g2, 0, none⟩) 1 1, .int .i64 2, .int .i64 40, .int .i64 50, .string ⟨#[]⟩, .int .u8 1, .string ⟨#[]⟩, .slice (some ⟨g4, 0, none⟩) 1 1] 64))
 have H2c := Lib.hid (H2b.out.alloc (.cells #[.int .i64 1, .int .i64 10, .int .i64 30, .string ⟨#[]⟩, .int .u8 1, .string ⟨#[]⟩, .slice (some ⟨g2, 0, none⟩) 1 1, .int .i64 2, .int .i64 40, .int .i64 50, .string ⟨#[]⟩, .int .u8 1, .string ⟨#[]⟩, .slice (some ⟨g4, 0, none⟩) 1 1] 64))
 have H3c := Lib.hid (H3.out.alloc (.cells #[.int .i64 1, .int .i64 10, .int .i64 30, .string ⟨#[]⟩, .int .u8 1, .string ⟨#[]⟩, .slice (some ⟨g2, 0, none⟩) 1 1, .int .i64 2, .int .i64 40, .int .i64 50, .string ⟨#[]⟩, .int .u8 1, .string ⟨#[]⟩, .slice (some ⟨g4, 0, none⟩) 1 1] 64))
 have H4c := Lib.hid (H4.out.alloc (.cells #[.int .i64 1, .int .i64 10, .int .i64 30, .string ⟨#[]⟩, .int .u8 1, .string ⟨#[]⟩, .slice (some ⟨g2, 0, none⟩) 1 1, .int .i64 2, .int .i64 40, .int .i64 50, .string ⟨#[]⟩, .int .u8 1, .string ⟨#[]⟩, .slice (some ⟨g4, 0, none⟩) 1 1] 64))
 have HBE := Lib.hid (Blk.new w2 64 #[.int .i64 1, .int .i64 10, .int .i64 30, .string ⟨#[]⟩, .int .u8 1, .string ⟨#[]⟩, .slice (some ⟨g2, 0, none⟩) 1 1, .int .i64 2, .int .i64 40, .int .i64 50, .string ⟨#[]⟩, .int .u8 1, .string ⟨#[]⟩, .slice (some ⟨g4, 0, none⟩) 1 1])
 rw [← hgE] at HBE
 rw [← hw3] at HX3 HBq3 H1c H2c H3c H4c HBE ⊢
 have hz3 : w3.heap.size = gE + 1 := by rw [hw3, hgE, World.size_alloc]
 rw [← hz3]
 clear hw3 hgE HX2 HBq2 H1b H2b H3 H4
 obtain ⟨gR, hgR⟩ : ∃ gR, gR = w3.heap.size := ⟨_, rfl⟩
 rw [← hgR]
 obtain ⟨w4, hw4⟩ : ∃ w4, w4 = w3.alloc (.cells #[.string ⟨#[65]⟩, .string ⟨#[]⟩, .string ⟨#[]⟩, .int .u8 3, .bool false, .int .i64 2, .slice none 0 0, .slice (some ⟨gE, 0, none⟩) 2 2, .slice none 0 0] 58) := ⟨_, rfl⟩
 have HX4 := Lib.hid (HX3.out.alloc (.cells #[.string ⟨#[65]⟩, .string ⟨#[]⟩, .string ⟨#[]⟩, .int .u8 3, .bool false, .int .i64 2, .slice none 0 0, .slice (some ⟨gE, 0, none⟩) 2 2, .slice none 0 0] 58))
 have HBq4 := Lib.hid (HBq3.out.alloc (.cells #[.string ⟨#[65]⟩, .string ⟨#[]⟩, .string ⟨#[]⟩, .int .u8 3, .bool false, .int .i64 2, .slice none 0 0, .slice (some ⟨gE, 0, none⟩) 2 2, .slice none 0 0] 58))
 have H1d := Lib.hid (H1c.out.alloc (.cells #[.string ⟨#[65]⟩, .string ⟨#[]⟩, .string ⟨#[]⟩, .int .u8 3, .bool false, .int .i64 2, .slice none 0 0, .slice (some ⟨gE, 0, none⟩) 2 2, .slice none 0 0] 58))
 have H2d := Lib.hid (H2c.out.alloc (.cells #[.string ⟨#[65]⟩, .string ⟨#[]⟩, .string ⟨#[]⟩, .int .u8 3, .bool false, .int .i64 2, .slice none 0 0, .slice (some ⟨gE, 0, none⟩) 2 2, .slice none 0 0] 58))
 have H3d := Lib.hid (H3c.out.alloc (.cells #[.string ⟨#[65]⟩, .string ⟨#[]⟩, .string ⟨#[]⟩, .int .u8 3, .bool false, .int .i64 2, .slice none 0 0, .slice (some ⟨gE, 0, none⟩) 2 2, .slice none 0 0] 58))
 have H4d := Lib.hid (H4c.out.alloc (.cells #[.string ⟨#[65]⟩, .string ⟨#[]⟩, .string ⟨#[]⟩, .int .u8 3, .bool false, .int .i64 2, .slice none 0 0, .slice (some ⟨gE, 0, none⟩) 2 2, .slice none 0 0] 58))
 have HBEd := Lib.hid (HBE.out.alloc (.cells #[.string ⟨#[65]⟩, .string ⟨#[]⟩, .string ⟨#[]⟩, .int .u8 3, .bool false, .int .i64 2, .slice none 0 0, .slice (some ⟨gE, 0, none⟩) 2 2, .slice none 0 0] 58))
 have HBR := Lib.hid (Blk.new w3 58 #[.string ⟨#[65]⟩, .string ⟨#[]⟩, .string ⟨#[]⟩, .int .u8 3, .bool false, .int .i64 2, .slice none 0 0, .slice (some ⟨gE, 0, none⟩) 2 2, .slice none 0 0])
 rw [← hgR] at HBR
 rw [← hw4] at HX4 HBq4 H1d H2d H3d H4d HBEd HBR ⊢
 clear hw4 hgR hz3 HX3 HBq3 H1c H2c H3c H4c HBE
 have HDs : Hid (RDocsAt w4 (some ⟨gR, 0, none⟩) 1 xDocs) := xDocs_at H1d.out H2d.out H3d.out H4d.out HBEd.out HBR.out
 have q0 := HBq4.out.cell 0
 have q1 := HBq4.out.cell 1
 simp only [List.getElem?_toArray, List.getElem?_cons_zero, List.getElem?_cons_succ] at q0 q1
 clear H1d H2d H3d H4d HBEd HBR
 go_upto_region 4 with fail
 obtain ⟨gC, hgC⟩ : ∃ gC, gC = w4.heap.size := ⟨_, rfl⟩
 rw [← hgC]
 obtain ⟨w5, hw5⟩ : ∃ w5, w5 = w4.alloc (.cells #[.int .i64 1, .string ⟨#[65]⟩, .int .i64 0, .int .i64 0, .int .i64 20, .int .i64 1, .int .i64 1, .int .i64 2, .string ⟨#[65]⟩, .int .i64 25, .int .i64 20, .int .i64 30, .int .i64 1, .int .i64 1] 91) := ⟨_, rfl⟩
 have HX5 := Lib.hid (HX4.out.alloc (.cells #[.int .i64 1, .string ⟨#[65]⟩, .int .i64 0, .int .i64 0, .int .i64 20, .int .i64 1, .int .i64 1, .int .i64 2, .string ⟨#[65]⟩, .int .i64 25, .int .i64 20, .int .i64 30, .int .i64 1, .int .i64 1] 91))
 have HD5 := Lib.hid (HDs.out.ext ((Ext.refl w4).alloc (.cells #[.int .i64 1, .string ⟨#[65]⟩, .int .i64 0, .int .i64 0, .int .i64 20, .int .i64 1, .int .i64 1, .int .i64 2, .string ⟨#[65]⟩, .int .i64 25, .int .i64 20, .int .i64 30, .int .i64 1, .int .i64 1] 91)))
 have HBC := Lib.hid (Blk.new w4 91 #[.int .i64 1, .string ⟨#[65]⟩, .int .i64 0, .int .i64 0, .int .i64 20, .int .i64 1, .int .i64 1, .int .i64 2, .string ⟨#[65]⟩, .int .i64 25, .int .i64 20, .int .i64 30, .int .i64 1, .int .i64 1])
 rw [← hgC] at HBC
 rw [← hw5] at HX5 HD5 HBC ⊢
 have hz5 : w5.heap.size = gC + 1 := by rw [hw5, hgC, World.size_alloc]
 rw [← hz5]
 clear hw5 hgC q0 q1 HX4 HBq4 HDs
 have HCu := Lib.hid (xCuts_at HBC.out)
 obtain ⟨gL, hgL⟩ : ∃ gL, gL = w5.heap.size := ⟨_, rfl⟩
 rw [← hgL]
 obtain ⟨w6, hw6⟩ : ∃ w6, w6 = w5.alloc (.cells #[.string ⟨#[]⟩, .int .u8 3, .bool false, .slice (some ⟨gC, 0, none⟩) 2 2] 28) := ⟨_, rfl⟩
 have HX6 := Lib.hid (HX5.out.alloc (.cells #[.string ⟨#[]⟩, .int .u8 3, .bool false, .slice (some ⟨gC, 0, none⟩) 2 2] 28))
 have HD6 := Lib.hid (HD5.out.ext ((Ext.refl w5).alloc (.cells #[.string ⟨#[]⟩, .int .u8 3, .bool false, .slice (some ⟨gC, 0, none⟩) 2 2] 28)))
 have HC6 := Lib.hid (CutsAt.ext HCu.out ((Ext.refl w5).alloc (.cells #[.string ⟨#[]⟩, .int .u8 3, .bool false, .slice (some ⟨gC, 0, none⟩) 2 2] 28)))
 have HBL := Lib.hid (Blk.new w5 28 #[.string ⟨#[]⟩, .int .u8 3, .bool false, .slice (some ⟨gC, 0, none⟩) 2 2])
 rw [← hgL] at HBL
 rw [← hw6] at HX6 HD6 HC6 HBL ⊢
 clear hw6 hgL hz5 HX5 HD5 HBC HCu
 have HCon := Lib.hid (Conform_any xDocs (some ⟨gR, 0, none⟩) 1 1 xEdl (some ⟨gC, 0, none⟩) 2 2 6 w6 (HEn.out.ext HX6.out) HD6.out HC6.out (by decide) xEdlOk (by decide) xFit)
 unfold ConPost at HCon
 rw [xConDoc, xConFats, xE] at HCon
 unfold Edl.cells xEdl at HCon
 dsimp only at HCon
 go_wp2_with (refine wpList_loadB rfl 28 (.tmp 3) rfl gL 28 _ _ (by exact rfl) (by exact HBL.out) Tryz.underlying28 rfl (by exact size_list) ?_)
 refine HCon.out.mono ?_
 rintro e7 w7 ⟨⟨ra, rn, rc, ea, en, ec, ca, cn, cc⟩, F, fc, rfl, hat, -, hF, hx7⟩
 have HX7 := Lib.hid (HX6.out.trans hx7)
 have hevs := hat.evs
 dsimp only at hevs
 obtain rfl : 2 = en := hevs.len
 obtain ⟨be, offe, ev1, A1, n1, c1, rfl, hv1, -, a0, a1, a2, a3, a4, a5, a6⟩ := hevs.at_ev (i := 0) (by decide)
 obtain ⟨be', offe', ev2, A2, n2, c2, hAe, hv2, -, b0, b1, b2, b3, b4, b5, b6⟩ := hevs.at_ev (i := 1) (by decide)
 cases hAe
 obtain rfl : xE1.as 1 ⟨10, 20⟩ = ev1 := by simpa [xOut] using hv1
 obtain rfl : xE1.as 2 ⟨20, 25⟩ = ev2 := by simpa [xOut] using hv2
 have a1' : w7.cell? ⟨be, offe + 1, none⟩ = some (.int .i64 10) := by simpa [Ev.as] using a1
 have a2' : w7.cell? ⟨be, offe + 1 + 1, none⟩ = some (.int .i64 20) := by simpa [Ev.as] using a2
 have b1' : w7.cell? ⟨be, offe + 7 + 1, none⟩ = some (.int .i64 20) := by simpa [Ev.as] using b1
 have b2' : w7.cell? ⟨be, offe + 7 + 1 + 1, none⟩ = some (.int .i64 25) := by simpa [Ev.as] using b2
 have HF := Lib.hid hF
 clear hat hx7 hF hevs hv1 hv2 a0 a1 a2 a3 a4 a5 a6 b0 b1 b2 b3 b4 b5 b6 HCon HX6 HD6 HC6 HBL
 unfold Doc.cells xOut
 dsimp only
 go_upto_region 5 with fail
 have HX8 := Lib.hid (HX7.out.alloc (.cells #[.string ⟨#[]⟩, .string ⟨#[]⟩, .int .u8 3, .bool false, .int .i64 2, .slice ra rn rc, .slice (some ⟨be, offe, none⟩) 2 ec, .slice ca cn cc] 52))
 have HF8 := Lib.hid (HF.out.ext ((Ext.refl w7).alloc (.cells #[.string ⟨#[]⟩, .string ⟨#[]⟩, .int .u8 3, .bool false, .int .i64 2, .slice ra rn rc, .slice (some ⟨be, offe, none⟩) 2 ec, .slice ca cn cc] 52)))
 have e0 : ∀ o, (w7.alloc o).cell? ⟨be, offe + 1, none⟩ = some (.int .i64 10) := fun o => ((Ext.refl w7).alloc o).cell a1'
 have e1 : ∀ o, (w7.alloc o).cell? ⟨be, offe + 1 + 1, none⟩ = some (.int .i64 20) := fun o => ((Ext.refl w7).alloc o).cell a2'
 have e1b : ∀ o, (w7.alloc o).cell? ⟨be, offe + 2, none⟩ = some (.int .i64 20) := fun o => ((Ext.refl w7).alloc o).cell a2'
 have e2 : ∀ o, (w7.alloc o).cell? ⟨be, offe + 7 + 1, none⟩ = some (.int .i64 20) := fun o => ((Ext.refl w7).alloc o).cell b1'
 have e3 : ∀ o, (w7.alloc o).cell? ⟨be, offe + 7 + 1 + 1, none⟩ = some (.int .i64 25) := fun o => ((Ext.refl w7).alloc o).cell b2'
 have e3b : ∀ o, (w7.alloc o).cell? ⟨be, offe + 7 + 2, none⟩ = some (.int .i64 25) := fun o => ((Ext.refl w7).alloc o).cell b2'
 have hq1 : ∀ w : World, (binOp .neq 60 (.agg #[.int .i64 10, .int .i64 20]) (.agg #[.int .i64 10, .int .i64 20])).run Tryz.prog w = .ok (.bool false) w := fun w => by kernel_rfl
 have hq2 : ∀ w : World, (binOp .neq 60 (.agg #[.int .i64 20, .int .i64 25]) (.agg #[.int .i64 20, .int .i64 25])).run Tryz.prog w = .ok (.bool false) w := fun w => by kernel_rfl
 clear a1' a2' b1' b2'
 have HOr := Lib.hid (fun w' (hx : FatsAt w' F 2 [xF1, xF2]) => Origin_any F 2 fc [xF1, xF2] 2 w' hx (by decide) xTx.fit)
 have HTx := Lib.hid (fun w' (hx : FatsAt w' F 2 [xF1, xF2]) (ht : TabU w') => Text_any F 2 fc [xF1, xF2] w' hx (by decide) xTx ht)
 rw [xOrig] at HOr
 rw [xText] at HTx
 dsimp only at HOr
 go_wp2_with fail
 refine (HOr.out _ HF8.out).mono ?_
 rintro e9 w9 ⟨rfl, hx9⟩
 have HX9 := Lib.hid (HX8.out.trans hx9)
 have HF9 := Lib.hid (HF8.out.ext hx9)
 clear hx9 HOr
 go_wp2_with fail
 refine (HTx.out _ HF9.out (HTn.out.ext HX9.out)).mono ?_
 rintro e10 w10 ⟨rfl, hx10⟩
 have HX10 := Lib.hid (HX9.out.trans hx10)
 clear hx10 HTx
 go_wp2_with fail
 go_ret
 exact ⟨by rfl, HX10.out⟩
end Go.Proofs.YtablhmobekmflaaGreatDoor
/-! LawCfChk -/
namespace Go.Proofs.YtablhmobekmflaaGreatDoor
open Go.RowKit
structure Fits46 (w : World) (A : Option Addr) (n : Nat) (docs : List RDoc) (m : Nat) (e : Edl) : Prop where
 at_ : RDocsAt w A n docs
 fit : RDocsFit docs
 n : n ≤ 1000000
 m : m ≤ 1000000
 few : sumR docs ≤ 80
theorem fits46 {w : World} {A : Option Addr} {n : Nat} {docs : List RDoc} {m : Nat} {e : Edl} {B : Option Addr} (h : RDocsIn w A n docs) (hr : ∀ d ∈ docs, d.reel.size ≤ 1048576) (he : CutsAt w B m e.cuts) (hs : small46 docs e = true) : Fits46 w A n docs m e := by
 obtain ⟨h1, h2, h3, h4⟩ := of_decide_eq_true hs
 have hn : docs.length = n := h.1
 have hm : e.cuts.length = m := he.1
 exact ⟨h.docs fun d hd => by have := sumR_mem hd; omega, ⟨fun d hd => by have := hr d hd; omega, h.fit⟩, by omega, by omega, h4⟩
theorem Fits46.ext {w w1 : World} {A : Option Addr} {n m : Nat} {docs : List RDoc} {e : Edl} (h : Fits46 w A n docs m e) (k : Ext w w1) : Fits46 w1 A n docs m e := ⟨h.at_.ext k, h.fit, h.n, h.m, h.few⟩
end Go.Proofs.YtablhmobekmflaaGreatDoor
/-! Sam6 -/
namespace Go.Proofs.YtablhmobekmflaaGreatDoor
open Go.RowKit
theorem neq_spn (a b : Spn) (w : World) : (binOp .neq 60 (.agg #[.int .i64 a.inn, .int .i64 a.out]) (.agg #[.int .i64 b.inn, .int .i64 b.out])).run Tryz.prog w = .ok (.bool (!decide (a = b))) w := by
 obtain ⟨a1, a2⟩ := a
 obtain ⟨b1, b2⟩ := b
 dsimp only
 go_simp
 repeat' split
 all_goals simp_all
def inB (l : List Spn) (f : Int) : Bool := l.any fun s => decide (s.inn ≤ f ∧ f < s.out)
theorem inB_inn (l : List Spn) (f : Int) : inB l f = true ↔ Inn l f := by unfold inB Inn; simp
def WiRel (w : World) (n : Nat) (l : List Spn) (f : Int) (i : Value) (wr : World) : Prop := ∃ k : Nat, k ≤ n ∧ i = .int .i64 k ∧ Ext w wr ∧ inB l f = inB (l.drop k) f
set_option maxRecDepth 100000 in
set_option maxHeartbeats 2000000 in
theorem R5Within_any (A : Option Addr) (n c : Nat) (l : List Spn) (f : Int) (w : World) (hl : SpnsAt w A n l) (hn : n ≤ 1000000) :
 Calls Tryz.prog 32 #[.slice A n c, .int .i64 f] w fun e w' => e = .returned (.bool (inB l f)) ∧ Ext w w' := by
 have HL := Lib.hid hl
 have HLn := Lib.hid hl.len
 clear hl
 go_enter Tryz.func32, Tryz.ntmps32
 go_wp2_with fail
 go_loopw [9] (fun i wr => WiRel w n l f i wr) (fun i _ => n - (intOf i).toNat)
 case atStart => exact ⟨0, Nat.zero_le _, rfl, Ext.refl _, by simp⟩
 case round =>
  obtain ⟨k, hk, rfl, hx, hp⟩ := hrel
  have HP := Lib.hid hp
  have HX := Lib.hid hx
  clear hp hx
  by_cases hlt : k < n
  · obtain ⟨b, off, x, rfl, hxk, hC⟩ := (HL.out.ext HX.out).at_ hlt
    have c0 := hC 0 _ rfl
    have c1 := hC 1 _ rfl
    simp only [Nat.add_zero] at c0
    have HD := Lib.hid (drop_at l k x hxk)
    have HX1 := Lib.hid (HX.out.alloc (.cells #[.int .i64 x.inn, .int .i64 x.out] 60))
    clear hC hxk
    by_cases h1 : x.inn ≤ f
    · by_cases h2 : f < x.out
      · have d1 : decide (f ≥ x.inn) = true := by simpa using h1
        have d1' : decide (x.inn ≤ f) = true := by simpa using h1
        have d2 : decide (f < x.out) = true := by simpa using h2
        have HR : Hid (inB l f = true) := by show _ = _; rw [HP.out, HD.out]; unfold inB; rw [List.any_cons, decide_eq_true (And.intro h1 h2)]; rfl
        clear h1 h2
        go_wp2_with fail
        go_ret
        exact ⟨ret_bool HR.out.symm, HX1.out⟩
      · have d1 : decide (f ≥ x.inn) = true := by simpa using h1
        have d1' : decide (x.inn ≤ f) = true := by simpa using h1
        have d2 : decide (f < x.out) = false := by simpa using h2
        have HR : Hid (inB l f = inB (l.drop (k + 1)) f) := by show _ = _; rw [HP.out, HD.out]; unfold inB; rw [List.any_cons, decide_eq_false (fun h => h2 h.2)]; rfl
        clear h1 h2
        go_wp2_with fail
        exact ⟨⟨k + 1, by omega, by go_num, HX1.out, HR.out⟩, by simp [intOf]; omega⟩
    · have d1 : decide (f ≥ x.inn) = false := by simpa using h1
      have d1' : decide (x.inn ≤ f) = false := by simpa using h1
      have HR : Hid (inB l f = inB (l.drop (k + 1)) f) := by show _ = _; rw [HP.out, HD.out]; unfold inB; rw [List.any_cons, decide_eq_false (fun h => h1 h.1)]; rfl
      clear h1
      go_wp2_with fail
      exact ⟨⟨k + 1, by omega, by go_num, HX1.out, HR.out⟩, by simp [intOf]; omega⟩
  · have hkn : k = n := by omega
    subst hkn
    have HR : Hid (inB l f = false) := by show _ = _; rw [HP.out, List.drop_eq_nil_of_le (by have := HLn.out; omega)]; rfl
    go_wp2_with fail
    go_ret
    exact ⟨ret_bool HR.out.symm, HX.out⟩
end Go.Proofs.YtablhmobekmflaaGreatDoor
/-! LawMaps -/
namespace Go.Proofs.YtablhmobekmflaaGreatDoor
open Go.RowKit
theorem find_some {l : List Cut} {t : Int} {c : Cut} (h : findC l t = some c) : c ∈ l ∧ c.inn ≤ t ∧ t < c.out := by
 unfold findC at h
 have h1 := List.find?_some h
 exact ⟨List.mem_of_find?_eq_some h, by simpa using h1⟩
theorem find_none {l : List Cut} {t : Int} (h : findC l t = none) : ∀ c ∈ l, ¬ (c.inn ≤ t ∧ t < c.out) := by
 unfold findC at h
 intro c hc
 have := List.find?_eq_none.1 h c hc
 simpa using this
theorem cov_in {l : List Cut} {t : Int} : inB (joinS (covC l)) t = (findC l t).isSome := by
 have h1 : inB (joinS (covC l)) t = true ↔ (findC l t).isSome = true := by
  rw [inB_inn, (joinS_ok (covC l)).2.1]
  unfold Inn covC
  constructor
  · rintro ⟨s, hs, h⟩
    obtain ⟨c, hc, rfl⟩ := List.mem_map.1 hs
    cases hf : findC l t with
    | none => exact absurd h (find_none hf c hc)
    | some d => rfl
  · intro h
    obtain ⟨c, hf⟩ := Option.isSome_iff_exists.1 h
    obtain ⟨h1, h2⟩ := find_some hf
    exact ⟨_, List.mem_map.2 ⟨c, h1, rfl⟩, h2⟩
 cases hx : inB (joinS (covC l)) t <;> cases hy : (findC l t).isSome <;> simp_all
end Go.Proofs.YtablhmobekmflaaGreatDoor
/-! ConV -/
namespace Go.Proofs.YtablhmobekmflaaGreatDoor
open Go.RowKit
theorem entEvs_mem (c : Cut) : ∀ {l : List Ev} {i : Nat} {t : Ent}, t ∈ entEvs c i l → t.c = c ∧ partE c t.x = some t.p ∧ ∃ j, l[j]? = some t.x ∧ t.i = i + j
 | [], i, t, h => by simp [entEvs] at h
 | x :: l, i, t, h => by
  simp only [entEvs, List.mem_append] at h
  rcases h with h | h
  · unfold entAt at h
    split at h
    · simp at h
    · rename_i p hp
      simp at h
      subst h
      exact ⟨rfl, hp, 0, rfl, rfl⟩
  · obtain ⟨h1, h2, j, h3, h4⟩ := entEvs_mem c h
    exact ⟨h1, h2, j + 1, by simpa using h3, by omega⟩
theorem entC_mem {docs : List RDoc} {c : Cut} {t : Ent} (h : t ∈ entC docs c) : t.c = c ∧ partE c t.x = some t.p ∧ ∃ k d j, findRd docs c.reel = some k ∧ docs[k]? = some d ∧ d.reel = c.reel ∧ d.doc.evs[j]? = some t.x ∧ t.i = offR docs k + j := by
 unfold entC at h
 split at h
 · simp at h
 · rename_i k hk
   obtain ⟨d, hd, hr⟩ := findRd_at hk
   obtain ⟨h1, h2, j, h3, h4⟩ := entEvs_mem c h
   unfold evsR at h3
   rw [hd] at h3
   exact ⟨h1, h2, k, d, j, hk, hd, hr, h3, h4⟩
theorem ents_mem {docs : List RDoc} {l : List Cut} {t : Ent} (h : t ∈ ents docs l) : t.c ∈ l ∧ partE t.c t.x = some t.p ∧ ∃ k d j, findRd docs t.c.reel = some k ∧ docs[k]? = some d ∧ d.reel = t.c.reel ∧ d.doc.evs[j]? = some t.x ∧ t.i = offR docs k + j := by
 obtain ⟨c, hc, ht⟩ := List.mem_flatMap.1 h
 obtain ⟨h1, h2⟩ := entC_mem ht
 rw [h1]
 exact ⟨hc, h2⟩
theorem joinC_asc {e : Edl} (h : edlErr e = 0) : (joinC e.cuts).Pairwise fun a b => a.out ≤ b.inn := by
 have h1 := join_ok h
 rw [joinE_ok h] at h1
 exact (cuts_asc (edlErr_ok h1).2.2.2.2.1 (dayOf_bd _ _)).2
/-- the parts of a cut stand in order -/
theorem entEvs_asc {c : Cut} (hp : c.pc.Ok) : ∀ {l : List Ev} {i : Nat}, (l.Pairwise fun x y => x.inn ≤ y.inn) → (entEvs c i l).Pairwise fun a b => a.p.inn ≤ b.p.inn
 | [], i, _ => List.Pairwise.nil
 | x :: l, i, h => by
  rw [List.pairwise_cons] at h
  unfold entEvs
  rw [List.pairwise_append]
  refine ⟨?_, entEvs_asc hp h.2, fun a ha b hb => ?_⟩
  · unfold entAt
    split <;> simp
  · unfold entAt at ha
    split at ha
    · simp at ha
    · rename_i p hpp
      simp at ha
      subst ha
      obtain ⟨h1, h2, j, h3, h4⟩ := entEvs_mem c hb
      have h5 := h.1 b.x (List.mem_of_getElem? h3)
      unfold partE at hpp h2
      split at hpp
      · split at h2
        · have h6 := reach_mono hp h5
          cases hpp
          have := (Option.some.inj h2)
          rw [← this]
          exact h6
        · cases h2
      · cases hpp
theorem doc_asc {d : Doc} (h : d.err = 0) : d.evs.Pairwise fun x y => x.inn ≤ y.inn := by
 have := (evs_v (doc_ok h).2.2.2.1).srt
 refine this.imp fun hl => ?_
 unfold lessB at hl
 have := of_decide_eq_true hl
 omega
theorem ents_asc {docs : List RDoc} (hd : ∀ d ∈ docs, d.doc.err = 0) : ∀ {l : List Cut}, (∀ c ∈ l, c.pc.Ok) → (l.Pairwise fun a b => a.out ≤ b.inn) → (ents docs l).Pairwise fun a b => a.p.inn ≤ b.p.inn
 | [], _, _ => List.Pairwise.nil
 | c :: l, hp, ha => by
  rw [List.pairwise_cons] at ha
  unfold ents
  rw [List.flatMap_cons, List.pairwise_append]
  refine ⟨?_, ents_asc hd (fun c hc => hp c (List.mem_cons_of_mem _ hc)) ha.2, fun a h1 b h2 => ?_⟩
  · unfold entC
    split
    · exact List.Pairwise.nil
    · rename_i k hk
      obtain ⟨d, hdk, _⟩ := findRd_at hk
      have he : evsR docs k = d.doc.evs := by unfold evsR; rw [hdk]
      rw [he]
      exact entEvs_asc (hp c (List.mem_cons_self ..)) (doc_asc (hd d (List.mem_of_getElem? hdk)))
  · obtain ⟨e1, e2, _⟩ := entC_mem h1
    obtain ⟨f1, f2, _⟩ := ents_mem (docs := docs) (l := l) h2
    have k1 := part_bd (hp c (List.mem_cons_self ..)) e2
    have k2 := part_bd (hp _ (List.mem_cons_of_mem _ f1)) f2
    have := ha.1 _ f1
    omega
theorem evsOf_at {l : List Ent} {k : Nat} {t : Ent} (h : l[k]? = some t) : (evsOf l)[k]? = some (t.x.as ((k : Int) + 1) t.p) := by
 unfold evsOf
 rw [List.getElem?_mapIdx, h]
 rfl
theorem evsOf_mem {l : List Ent} {y : Ev} (h : y ∈ evsOf l) : ∃ (k : Nat) (t : Ent), l[k]? = some t ∧ y = t.x.as ((k : Int) + 1) t.p := by
 obtain ⟨k, hk⟩ := List.getElem?_of_mem h
 have hlt := (List.getElem?_eq_some_iff.1 hk).1
 rw [evsOf_len] at hlt
 have ht : l[k]? = some l[k] := List.getElem?_eq_getElem hlt
 rw [evsOf_at ht] at hk
 exact ⟨k, _, ht, (Option.some.inj hk).symm⟩
theorem refR_ok {l m : List Reg} (h : refR l = some m) : (m.Pairwise fun x y => nmR x < nmR y) ∧ ∀ x, x ∈ m ↔ x ∈ l := by
 unfold refR at h
 rcases refR_fold l [] [] List.Pairwise.nil (fun x => Iff.rfl) with ⟨q, h1, h2, h3⟩ | ⟨h1, _⟩
 · rw [h1] at h
   cases h
   exact ⟨h2, by simpa using h3⟩
 · rw [h1] at h
   cases h
theorem regs_each : ∀ {l : List Reg} {p : Option ByteArray}, regsLoop p l = 0 → ∀ r ∈ l, r.check = 0
 | [], _, _, r, hr => by simp at hr
 | x :: l, p, h, r, hr => by
  unfold regsLoop at h
  split at h
  · rename_i h1; exact absurd h h1
  · rename_i h1
    split at h
    · omega
    · split at h
      · omega
      · rcases List.mem_cons.1 hr with rfl | hr
        · simpa using h1
        · exact regs_each h r hr
theorem each_regs : ∀ {l : List Reg} {p : Option ByteArray}, (∀ r ∈ l, r.check = 0) → (l.Pairwise fun x y => nmR x < nmR y) → (∀ q, p = some q → ∀ r ∈ l, q.toList < nmR r) → regsLoop p l = 0
 | [], _, _, _, _ => rfl
 | x :: l, p, h1, h2, h3 => by
  rw [List.pairwise_cons] at h2
  unfold regsLoop
  rw [if_neg (by simpa using h1 x (List.mem_cons_self ..)), if_neg, if_neg]
  · exact each_regs (fun r hr => h1 r (List.mem_cons_of_mem _ hr)) h2.2 (fun q hq r hr => by cases hq; exact h2.1 r hr)
  · intro hc
    cases p with
    | none => simp at hc
    | some q =>
     have := h3 q rfl x (List.mem_cons_self ..)
     simp only [Option.map_some, Option.some.injEq] at hc
     rw [Go.Proofs.bytesLess_eq] at hc
     have hc : x.name.toList < q.toList := by simpa using hc
     exact Bs.lt_irrefl _ (Bs.lt_trans this hc)
  · intro hc
    have := h3 x.name hc x (List.mem_cons_self ..)
    exact Bs.lt_irrefl _ this
theorem findR_sub {l m : List Reg} {nm : ByteArray} {r : Reg} (hm : m.Pairwise fun x y => nmR x < nmR y) (hs : ∀ x ∈ l, x ∈ m) (h : findR l nm = some r) : findR m nm = some r := by
 unfold findR at h ⊢
 split at h
 · rename_i h1; rw [if_pos h1]; exact h
 · rename_i h1
   rw [if_neg h1]
   have hr := List.find?_some h
   have hmem := hs r (List.mem_of_find?_eq_some h)
   cases hf : m.find? fun r => r.name.toList == nm.toList with
   | none => exact absurd hr (List.find?_eq_none.1 hf r hmem)
   | some q =>
    have hq := List.find?_some hf
    have hqm := List.mem_of_find?_eq_some hf
    simp only [beq_iff_eq] at hr hq
    have he : nmR q = nmR r := hq.trans hr.symm
    obtain ⟨i, hi, rfl⟩ := List.mem_iff_getElem.1 hqm
    obtain ⟨j, hj, rfl⟩ := List.mem_iff_getElem.1 hmem
    have hp := List.pairwise_iff_getElem.1 hm
    rcases Nat.lt_trichotomy i j with hij | hij | hij
    · have := hp i j hi hj hij; rw [he] at this; exact absurd this (Bs.lt_irrefl _)
    · subst hij; rfl
    · have := hp j i hj hi hij; rw [he] at this; exact absurd this (Bs.lt_irrefl _)
theorem ev_as_err {x : Ev} {l m : List Reg} {id : Int} {p : Spn} (h : x.err l = 0) (hm : m.Pairwise fun x y => nmR x < nmR y) (hs : ∀ r ∈ l, r ∈ m) (h1 : 1 ≤ id) (h2 : id ≤ 1099511627776) (h3 : spansB p.inn p.out = true) : (x.as id p).err m = 0 := by
 unfold Ev.err at h ⊢
 split at h
 · omega
 · rw [if_neg (by simp only [Ev.as]; rw [h3]; simp; omega)]
   split at h
   · omega
   · rename_i r hr
     have he : findR m (x.as id p).region = some r := findR_sub hm hs hr
     rw [he]
     exact h
theorem spansB_of {a b : Int} (h0 : 0 ≤ a) (h1 : a < b) (h2 : b ≤ 5184000) : spansB a b = true := by
 unfold spansB
 simp
 omega
theorem langD_cons (d : RDoc) (l : List RDoc) : langD (d :: l) = if l.all (fun x => decide (x.doc.lang = d.doc.lang)) = true then d.doc.lang else ⟨#[]⟩ := rfl
theorem langD_ok : ∀ {l : List RDoc}, (∀ d ∈ l, d.doc.err = 0) → ¬ ((langD l).toList.isEmpty = false ∧ nameB (langD l) = false)
 | [], _ => by unfold langD; simp
 | d :: l, h => by
  rw [langD_cons]
  split
  · exact (head_ok' (doc_ok (h d (List.mem_cons_self ..))).1).2.2.1
  · simp
/-- the error of a conform is none -/
theorem conE_ok {docs : List RDoc} {e : Edl} {least : Int} (h : conE docs e least = 0) : conErr docs e = 0 ∧ ¬ least < 0 ∧ (conSt docs e least).evs.length ≤ 400 := by
 unfold conE at h
 split at h
 · rename_i h1; exact absurd h h1
 · rename_i h1
   split at h
   · omega
   · split at h
     · omega
     · exact ⟨by simpa using h1, by assumption, by omega⟩
theorem con_evs {docs : List RDoc} {e : Edl} {least : Int} : (conSt docs e least).evs = evsOf (ents docs (joinC e.cuts)) := by rw [conSt_shape]
/-- the conformed document is accepted -/
theorem con_valid {docs : List RDoc} {e : Edl} {least : Int} (hE : conE docs e least = 0) : (conDoc docs e least).err = 0 := by
 obtain ⟨h0, h1, h2⟩ := conE_ok hE
 obtain ⟨g1, g2, g3, m, g4, g5⟩ := conErr_ok h0
 obtain ⟨m1, m2⟩ := refR_ok g4
 have hd := fun d hd => (rd_all g3 d hd).2.1
 have hD : conDoc docs e least = ⟨e.title, langD docs, e.rate, e.drop, (conSt docs e least).evs.length, m, (conSt docs e least).evs, []⟩ := by
  unfold conDoc
  rw [if_pos hE, g4]
  rfl
 obtain ⟨k1, k2, k3, k4, k5, k6⟩ := edlErr_ok g1
 have hhead : (conDoc docs e least).headErr = 0 := by
  rw [hD]
  unfold Doc.headErr
  rw [if_neg (by simp [k1]), if_neg k2, if_neg (langD_ok hd), if_neg (by simp [k3]), if_neg (by simp only; omega)]
 have hregs : regsErr m = 0 := by
  unfold regsErr
  rw [if_neg g5]
  refine each_regs (fun r hr => ?_) m1 (fun q hq => by cases hq)
  obtain ⟨d, hd1, hr1⟩ := List.mem_flatMap.1 ((m2 r).1 hr)
  have := (doc_ok (hd d hd1)).2.1
  unfold regsErr at this
  split at this
  · omega
  · exact regs_each this r hr1
 rw [con_evs] at h2 hD
 have hev : evsLoop m ((evsOf (ents docs (joinC e.cuts))).length : Nat) [] (evsOf (ents docs (joinC e.cuts))) = 0 := by
  refine v_evs ⟨fun y hy => ?_, ?_, ?_⟩
  · obtain ⟨k, t, ht, rfl⟩ := evsOf_mem hy
    have hk := (List.getElem?_eq_some_iff.1 ht).1
    rw [evsOf_len] at h2 ⊢
    obtain ⟨e1, e2, z, d, j, e3, e4, e5, e6, e7⟩ := ents_mem (List.mem_of_getElem? ht)
    have hok := joinC_ok g1 _ e1
    have hb := part_bd hok e2
    have hi0 := hok.i0
    have ho1 := hok.o1
    have hdm := List.mem_of_getElem? e4
    refine ⟨ev_as_err ((evs_v (doc_ok (hd d hdm)).2.2.2.1).each _ (List.mem_of_getElem? e6)).1 m1 (fun r hr => (m2 r).2 (List.mem_flatMap.2 ⟨d, hdm, hr⟩)) (by omega) (by omega) (spansB_of ?_ hb.2.1 ?_), ?_⟩
    · have : t.c.inn = t.c.pc.inn := rfl
      omega
    · have : t.c.out = t.c.pc.out := rfl
      omega
    · show (k : Int) + 1 ≤ _
      omega
  · have ha := ents_asc hd (joinC_ok g1) (joinC_asc g1)
    refine List.pairwise_iff_getElem.2 fun i j hi hj hij => ?_
    rw [evsOf_len] at hi hj
    have ti : (ents docs (joinC e.cuts))[i]? = some (ents docs (joinC e.cuts))[i] := List.getElem?_eq_getElem hi
    have tj : (ents docs (joinC e.cuts))[j]? = some (ents docs (joinC e.cuts))[j] := List.getElem?_eq_getElem hj
    have hi' := (List.getElem?_eq_some_iff.1 (evsOf_at ti)).2
    have hj' := (List.getElem?_eq_some_iff.1 (evsOf_at tj)).2
    rw [hi', hj']
    have := List.pairwise_iff_getElem.1 ha i j hi hj hij
    unfold lessB
    refine decide_eq_true ?_
    simp only [Ev.as]
    omega
  · refine List.pairwise_iff_getElem.2 fun i j hi hj hij => ?_
    rw [evsOf_len] at hi hj
    have ti : (ents docs (joinC e.cuts))[i]? = some (ents docs (joinC e.cuts))[i] := List.getElem?_eq_getElem hi
    have tj : (ents docs (joinC e.cuts))[j]? = some (ents docs (joinC e.cuts))[j] := List.getElem?_eq_getElem hj
    have hi' := (List.getElem?_eq_some_iff.1 (evsOf_at ti)).2
    have hj' := (List.getElem?_eq_some_iff.1 (evsOf_at tj)).2
    rw [hi', hj']
    simp only [Ev.as]
    omega
 have hD1 : (conDoc docs e least).regs = m := by rw [hD]
 have hD2 : (conDoc docs e least).last = ((evsOf (ents docs (joinC e.cuts))).length : Nat) := by rw [hD]
 have hD3 : (conDoc docs e least).evs = evsOf (ents docs (joinC e.cuts)) := by rw [hD]
 have hD4 : (conDoc docs e least).coms = [] := by rw [hD]
 unfold Doc.err
 rw [if_neg (by simpa using hhead), hD1, if_neg (by simpa using hregs), hD2, hD3, if_neg (by omega), if_neg (by simpa using hev), hD4, if_neg (by simp)]
 rfl
/-- no part is longer than its cut: both its ends are covered -/
theorem con_cover {docs : List RDoc} {e : Edl} {least : Int} (hE : conE docs e least = 0) {k : Nat} {y : Ev} (hy : (conDoc docs e least).evs[k]? = some y) :
 y.id = (k : Int) + 1 ∧ inB (covE e) y.inn = true ∧ inB (covE e) (y.out - 1) = true ∧ y.inn < y.out ∧ 0 ≤ y.inn ∧ y.out ≤ 5184000 := by
 obtain ⟨h0, h1, h2⟩ := conE_ok hE
 obtain ⟨g1, g2, g3, m, g4, g5⟩ := conErr_ok h0
 have hD : (conDoc docs e least).evs = evsOf (ents docs (joinC e.cuts)) := by unfold conDoc; rw [if_pos hE]; exact con_evs
 rw [hD] at hy
 have hk := (List.getElem?_eq_some_iff.1 hy).1
 rw [evsOf_len] at hk
 have ht : (ents docs (joinC e.cuts))[k]? = some (ents docs (joinC e.cuts))[k] := List.getElem?_eq_getElem hk
 rw [evsOf_at ht] at hy
 generalize (ents docs (joinC e.cuts))[k] = t at *
 cases hy
 obtain ⟨e1, e2, -⟩ := ents_mem (List.mem_of_getElem? ht)
 have hok := joinC_ok g1 _ e1
 have hb := part_bd hok e2
 have hi0 := hok.i0
 have ho1 := hok.o1
 have hcv : ∀ u, t.c.inn ≤ u → u < t.c.out → inB (covE e) u = true := fun u h3 h4 => by
  unfold covE
  rw [if_pos g1, cov_in]
  have hp := join_play (fun c hc => edl_sane g1 hc) (l := e.cuts) u
  unfold playC at hp
  cases hf : findC (joinC e.cuts) u with
  | none => exact absurd ⟨h3, h4⟩ (find_none hf _ e1)
  | some c =>
   rw [hf] at hp
   cases hf2 : findC e.cuts u with
   | none => rw [hf2] at hp; simp at hp
   | some _ => rfl
 have a1 : t.c.inn = t.c.pc.inn := rfl
 have a2 : t.c.out = t.c.pc.out := rfl
 refine ⟨rfl, hcv _ ?_ ?_, hcv _ ?_ ?_, hb.2.1, ?_, ?_⟩ <;> simp only [Ev.as] <;> omega
/-- the conformed document can be looked at -/
theorem con_fit {docs : List RDoc} {e : Edl} {least : Int} (hE : conE docs e least = 0) (hf : ∀ d ∈ docs, DocFit d.doc) (hr0 : 0 ≤ e.rate) (hr1 : e.rate ≤ 255) : DocFit (conDoc docs e least) := by
 obtain ⟨h0, h1, h2⟩ := conE_ok hE
 obtain ⟨g1, g2, g3, m, g4, g5⟩ := conErr_ok h0
 obtain ⟨m1, m2⟩ := refR_ok g4
 have hD : conDoc docs e least = ⟨e.title, langD docs, e.rate, e.drop, (conSt docs e least).evs.length, m, (conSt docs e least).evs, []⟩ := by
  unfold conDoc
  rw [if_pos hE, g4]
  rfl
 have ht := (edlErr_ok g1).2.1
 have hl : (langD docs).size ≤ 9223372036854775807 := by
  cases docs with
  | nil => unfold langD; decide
  | cons d l =>
   rw [langD_cons]
   split
   · exact (hf d (List.mem_cons_self ..)).ok.lang
   · exact (by decide : (⟨#[]⟩ : ByteArray).size ≤ 9223372036854775807)
 have hev : ∀ y ∈ (conSt docs e least).evs, ∃ (k : Nat) (t : Ent) (d : RDoc), d ∈ docs ∧ t.x ∈ d.doc.evs ∧ k < 400 ∧ y = t.x.as ((k : Int) + 1) t.p := fun y hy => by
  rw [con_evs] at hy h2
  obtain ⟨k, t, hk, rfl⟩ := evsOf_mem hy
  obtain ⟨-, -, z, d, j, -, e4, -, e6, -⟩ := ents_mem (List.mem_of_getElem? hk)
  have := (List.getElem?_eq_some_iff.1 hk).1
  rw [evsOf_len] at h2
  exact ⟨k, t, d, List.mem_of_getElem? e4, List.mem_of_getElem? e6, by omega, rfl⟩
 rw [hD]
 refine ⟨⟨hr0, hr1, by simp only; omega, hl⟩, fun r hr => ?_, fun y hy => ?_, fun y hy => ?_, fun c hc => by simp at hc⟩
 · obtain ⟨d, hd1, hr1⟩ := List.mem_flatMap.1 ((m2 r).1 hr)
   exact (hf d hd1).regs r hr1
 · obtain ⟨k, t, d, h3, h4, h5, rfl⟩ := hev y hy
   exact (hf d h3).evs t.x h4
 · obtain ⟨k, t, d, h3, h4, h5, rfl⟩ := hev y hy
   refine ⟨?_, ?_⟩ <;> simp only [Ev.as] <;> omega
end Go.Proofs.YtablhmobekmflaaGreatDoor
/-! LawCfVal -/
namespace Go.Proofs.YtablhmobekmflaaGreatDoor
open Go.RowKit
theorem con_last {docs : List RDoc} {e : Edl} {least : Int} (h : conE docs e least = 0) : (conDoc docs e least).last = ((conDoc docs e least).evs.length : Nat) ∧ (conDoc docs e least).coms = [] := by
 unfold conDoc; rw [if_pos h]; exact ⟨rfl, rfl⟩
def VlRel (w : World) (n : Nat) (i : Value) (wr : World) : Prop := ∃ k : Nat, k ≤ n ∧ i = .int .i64 k ∧ Ext w wr
set_option maxRecDepth 100000 in
set_option maxHeartbeats 8000000 in
theorem ConformValid_any (docs : List RDoc) (A : Option Addr) (n c : Nat) (e : Edl) (B : Option Addr) (m d : Nat) (least : Int) (w : World) (hE : Env w) (ht : TabU w) (hl : RDocsIn w A n docs) (hr : ∀ d ∈ docs, d.reel.size ≤ 1048576) (he : CutsAt w B m e.cuts) (hok : EdlOk e) :
 Calls Tryz.prog 7 #[.slice A n c, .agg (e.cells B m d), .int .i64 least] w fun en w' => en = .returned (.bool true) ∧ Ext w w' := by
 obtain ⟨W1, hW1⟩ : ∃ W1, W1 = w.alloc (.cells (e.cells B m d) 25) := ⟨_, rfl⟩
 have HX : Hid (Ext w W1) := by show Ext _ _; rw [hW1]; exact (Ext.refl w).alloc _
 have HB : Hid (Blk W1 w.heap.size 25 (e.cells B m d)) := by show Blk _ _ _ _; rw [hW1]; exact Blk.new w _ _
 have HAw := Lib.hid (fun w' (hx : Ext w w') => awake46_any w' (hE.ext hx) (ht.ext hx))
 have HSm := Lib.hid (fun w' (hx : Ext w w') => small46_any docs A n c e B m d w' (hl.ext hx) (he.ext hx))
 have HOf := Lib.hid (fun w' => Of_any e B m d w')
 have HFt := Lib.hid (fun (h : small46 docs e = true) => fits46 hl hr he h)
 have HCo := Lib.hid (fun w' (hx : Ext w w') (h : Fits46 w A n docs m e) => Conform_any docs A n c e B m d least w' (hE.ext hx) (h.at_.ext hx) (he.ext hx) h.m hok h.n h.fit)
 have HDc := Lib.hid (fun (hh : DocH) w' (hx : Ext w w') (h : Fits46 w A n docs m e) (h0 : conE docs e least = 0) (hat : DocAt w' (conDoc docs e least) hh) (hs : DocSz hh) => DCheck_any (conDoc docs e least) hh w' (hE.ext hx) hat (con_fit h0 h.fit.doc hok.r0 hok.r1) (by have := hs.r; omega) hs.e (by have := hs.c; omega))
 have HCv := Lib.hid (fun w' (hx : Ext w w') (h : Fits46 w A n docs m e) => ECover_any e B m d w' (hE.ext hx) (he.ext hx) h.m hok)
 have HOk : Hid (conE docs e least = 0 → (conDoc docs e least).err = 0 ∧ edlErr e = 0 ∧ (conDoc docs e least).last = ((conDoc docs e least).evs.length : Nat) ∧ (conDoc docs e least).coms = []) := fun h => ⟨con_valid h, (conErr_ok (conE_ok h).1).1, con_last h⟩
 have HNo : Hid (¬ conE docs e least = 0 → (conDoc docs e least).evs = []) := fun h => by unfold conDoc; rw [if_neg h]; rfl
 have HEv := Lib.hid (fun (h : conE docs e least = 0) (k : Nat) (y : Ev) (hy : (conDoc docs e least).evs[k]? = some y) => con_cover h hy)
 have hcv : (covE e).length ≤ 1000000 := by
  unfold covE; split
  · rename_i h; have h1 := (edlErr_ok h).2.2.2.1; have h2 := covC_len e.cuts e.cuts.length; have h3 := (joinS_ok (covC e.cuts)).2.2.1; rw [List.take_length] at h2; omega
  · simp
 unfold LPost at HCv
 clear hE ht hl hr he hok
 unfold ConPost at HCo
 unfold Edl.cells at *
 go_enter Tryz.func7, Tryz.ntmps7
 go_upto_region 1 with fail
 rw [← hW1]
 clear hW1
 go_wp2_with fail
 refine (HAw.out _ HX.out).mono ?_
 rintro en w_16 ⟨rfl, hx_17⟩
 have HX_18 := Lib.hid (HX.out.trans hx_17)
 have HB_19 := Lib.hid (HB.out.ext hx_17)
 clear hx_17 HX HB
 go_wp2_with (refine wpList_loadB rfl 25 (.tmp 4) rfl w.heap.size 25 _ _ (by exact rfl) (by exact HB_19.out) Tryz.underlying25 rfl (by exact rsize_list) ?_)
 refine (HSm.out _ HX_18.out).mono ?_
 rintro en w_20 ⟨rfl, hx_21⟩
 have HX_22 := Lib.hid (HX_18.out.trans hx_21)
 have HB_23 := Lib.hid (HB_19.out.ext hx_21)
 clear hx_21 HX_18 HB_19
 cases hsm : small46 docs e with
 | false =>
  go_wp2_with fail
  go_ret
  exact ⟨rfl, HX_22.out⟩
 | true =>
  have HF := Lib.hid (HFt.out hsm)
  clear hsm HFt
  go_wp2_with (refine wpList_loadB rfl 25 (.tmp 4) rfl w.heap.size 25 _ _ (by exact rfl) (by exact HB_23.out) Tryz.underlying25 rfl (by exact rsize_list) ?_)
  refine (HOf.out _).mono ?_
  rintro en w_24 ⟨rfl, hx_25⟩
  have HX_26 := Lib.hid (HX_22.out.trans hx_25)
  have HB_27 := Lib.hid (HB_23.out.ext hx_25)
  clear hx_25 HX_22 HB_23
  go_upto_region 6 with fail
  have HB_28 := Lib.hid (Blk.new w_24 28 #[.string e.title, .int .u8 e.rate, .bool e.drop, .slice B m d])
  have ha_29 := (Ext.refl w_24).alloc (.cells #[.string e.title, .int .u8 e.rate, .bool e.drop, .slice B m d] 28)
  have HX_30 := Lib.hid (HX_26.out.trans ha_29)
  have HB_31 := Lib.hid (HB_27.out.ext ha_29)
  clear ha_29 HX_26 HB_27
  generalize w_24.alloc (.cells #[.string e.title, .int .u8 e.rate, .bool e.drop, .slice B m d] 28) = w_32 at *
  generalize w_24.heap.size = gl_33 at *
  go_wp2_with (refine wpList_loadB rfl 28 (.tmp 7) rfl gl_33 28 _ _ (by exact rfl) (by exact HB_28.out) Tryz.underlying28 rfl (by exact size_list) ?_)
  refine (HCo.out _ HX_30.out HF.out).mono ?_
  rintro en w_34 ⟨⟨hra, nr, hrc, hea, ne, hec, hca, nc, hcc⟩, AF, fc, rfl, hat, hsz, hft, hx_35⟩
  have HAt_0 := Lib.hid hat
  have HFa_0 := Lib.hid hft
  have hsr := hsz.r
  have hse := hsz.e
  have hsc := hsz.c
  clear hat hft hsz
  have HX_36 := Lib.hid (HX_30.out.trans hx_35)
  have HB_37 := Lib.hid (HB_31.out.ext hx_35)
  have HB_38 := Lib.hid (HB_28.out.ext hx_35)
  clear hx_35 HX_30 HB_31 HB_28
  generalize conDoc docs e least = D at *
  generalize conFats docs e least = F at *
  generalize conE docs e least = E at *
  generalize covE e = cv at *
  unfold Doc.cells
  dsimp only
  go_upto_region 7 with fail
  have HB_39 := Lib.hid (Blk.new w_34 52 #[.string D.title, .string D.lang, .int .u8 D.rate, .bool D.drop, .int .i64 D.last, .slice hra nr hrc, .slice hea ne hec, .slice hca nc hcc])
  have ha_40 := (Ext.refl w_34).alloc (.cells #[.string D.title, .string D.lang, .int .u8 D.rate, .bool D.drop, .int .i64 D.last, .slice hra nr hrc, .slice hea ne hec, .slice hca nc hcc] 52)
  have HX_41 := Lib.hid (HX_36.out.trans ha_40)
  have HB_42 := Lib.hid (HB_37.out.ext ha_40)
  have HB_43 := Lib.hid (HB_38.out.ext ha_40)
  have HF_44 := Lib.hid (HAt_0.out.ext ha_40)
  have HF_45 := Lib.hid (HFa_0.out.ext ha_40)
  clear ha_40 HX_36 HB_37 HB_38 HAt_0 HFa_0
  generalize w_34.alloc (.cells #[.string D.title, .string D.lang, .int .u8 D.rate, .bool D.drop, .int .i64 D.last, .slice hra nr hrc, .slice hea ne hec, .slice hca nc hcc] 52) = w_46 at *
  generalize w_34.heap.size = gd_47 at *
  by_cases hE : E = 0
  case neg =>
   have hne : (E != 0) = true := by simpa using hE
   have hev := HNo.out hE
   have hz : ne = 0 := by have := HF_44.out.evs.len; rw [hev] at this; simpa using this.symm
   subst hz
   clear hE HNo HOk HEv HDc hev
   have hc_48 := fun o => HB_39.out.cell o
   go_wp2_with fail
   clear hc_48
   go_ret
   exact ⟨rfl, HX_41.out⟩
  subst hE
  obtain ⟨o1, o2, o3, o4⟩ := HOk.out rfl
  have hzc : nc = 0 := by have := HF_44.out.coms.len; rw [o4] at this; simpa using this.symm
  have hle : D.evs.length = ne := HF_44.out.evs.len
  have HL : Hid (D.last = (ne : Int)) := by show _ = _; rw [o3, hle]
  have HEq := Lib.hid (HEv.out rfl)
  have HO1 := Lib.hid o1
  rw [o2] at HCv
  subst hzc
  clear o1 o2 o3 o4 HOk HNo HEv hle
  go_wp2_with (refine wpList_loadB rfl 52 (.tmp 8) rfl gd_47 52 _ _ (by exact rfl) (by exact HB_39.out) Tryz.underlying52 rfl (by exact size_docI) ?_)
  have HD1 := Lib.hid (HDc.out ⟨hra, nr, hrc, hea, ne, hec, hca, 0, hcc⟩ _ HX_41.out HF.out (by simp) HF_44.out ⟨hsr, hse, Nat.zero_le _⟩)
  unfold Doc.cells at HD1
  dsimp only at HD1
  rw [HO1.out] at HD1
  refine (HD1.out).mono ?_
  rintro en w_49 ⟨rfl, hx_50⟩
  have HX_51 := Lib.hid (HX_41.out.trans hx_50)
  have HB_52 := Lib.hid (HB_42.out.ext hx_50)
  have HB_53 := Lib.hid (HB_43.out.ext hx_50)
  have HB_54 := Lib.hid (HB_39.out.ext hx_50)
  have HF_55 := Lib.hid (HF_44.out.ext hx_50)
  have HF_56 := Lib.hid (HF_45.out.ext hx_50)
  clear hx_50 HX_41 HB_42 HB_43 HB_39 HF_44 HF_45
  clear HDc HD1
  have hlx : D.last = (ne : Int) := HL.out
  have hcx := fun o => HB_54.out.cell o
  rw [hlx] at hcx
  clear hlx
  go_wp2_with first | fail | (refine wpList_loadB rfl 28 (.tmp 7) rfl gl_33 28 _ _ (by exact rfl) (by exact HB_53.out) Tryz.underlying28 rfl (by exact size_list) ?_)
  clear hcx
  refine (HCv.out _ HX_51.out HF.out).mono ?_
  rintro en w_57 ⟨A2, c2, rfl, hcs, -, hx_58, -⟩
  have HCs := Lib.hid hcs
  clear hcs
  have HX_59 := Lib.hid (HX_51.out.trans hx_58)
  have HB_60 := Lib.hid (HB_52.out.ext hx_58)
  have HB_61 := Lib.hid (HB_53.out.ext hx_58)
  have HB_62 := Lib.hid (HB_54.out.ext hx_58)
  have HF_63 := Lib.hid (HF_55.out.ext hx_58)
  have HF_64 := Lib.hid (HF_56.out.ext hx_58)
  clear hx_58 HX_51 HB_52 HB_53 HB_54 HF_55 HF_56
  have hcx := fun o => HB_62.out.cell o
  go_wp2_with fail
  clear hcx
  have HW := Lib.hid (fun w' (f : Int) (hx : Ext w_57 w') => R5Within_any A2 cv.length c2 cv f w' (Sl.ext (Cells.stays _) HCs.out hx) hcv)
  have HEs := Lib.hid HF_63.out.evs
  clear HCs hcv
  go_loopw [63] (fun i wr => VlRel w_57 ne i wr) (fun i _ => ne - (intOf i).toNat)
  case atStart => exact ⟨0, Nat.zero_le _, rfl, Ext.refl _⟩
  case round =>
   obtain ⟨k, hk, rfl, hx⟩ := hrel
   by_cases hlt : k < ne
   · obtain ⟨b, off, y, Ay, ny, cy, hA, hyk, -, c0, c1, c2', c3, c4, c5, c6⟩ := (HEs.out.ext hx).at_ev hlt
     subst hA
     obtain ⟨v1, v2, v3, v4, v5, v6⟩ := HEq.out k y hyk
     clear hyk
     have HX2 := Lib.hid hx
     clear hx
     have HW1 := Lib.hid (fun w' (hx : Ext w_57 w') => HW.out w' y.inn hx)
     have HW2 := Lib.hid (fun w' (hx : Ext w_57 w') => HW.out w' (y.out - 1) hx)
     rw [v2] at HW1
     rw [v3] at HW2
     rw [v1] at c0
     clear v1 v2 v3
     have HX3 := Lib.hid (HX2.out.alloc (.cells #[.int .i64 ((k : Int) + 1), .int .i64 y.inn, .int .i64 y.out, .string y.region, .int .u8 y.kind, .string y.speaker, .slice Ay ny cy] 64))
     have HBy := Lib.hid (Blk.new wr 64 #[.int .i64 ((k : Int) + 1), .int .i64 y.inn, .int .i64 y.out, .string y.region, .int .u8 y.kind, .string y.speaker, .slice Ay ny cy])
     go_upto_region 17 with fail
     generalize wr.alloc (.cells #[.int .i64 ((k : Int) + 1), .int .i64 y.inn, .int .i64 y.out, .string y.region, .int .u8 y.kind, .string y.speaker, .slice Ay ny cy] 64) = w5 at *
     generalize wr.heap.size = gy at *
     clear c0 c1 c2' c3 c4 c5 c6
     have hcy := fun o => HBy.out.cell o
     go_wp2_with fail
     refine (HW1.out _ HX3.out).mono ?_
     rintro en w6 ⟨rfl, hx6⟩
     have HX4 := Lib.hid (HX3.out.trans hx6)
     have HBz := Lib.hid (HBy.out.ext hx6)
     clear hx6 hcy HBy
     have hcy := fun o => HBz.out.cell o
     go_wp2_with fail
     refine (HW2.out _ HX4.out).mono ?_
     rintro en w7 ⟨rfl, hx7⟩
     have HX5 := Lib.hid (HX4.out.trans hx7)
     clear hx7 hcy
     go_wp2_with fail
     exact ⟨⟨k + 1, by omega, by go_num, HX5.out⟩, by simp [intOf]; omega⟩
   · obtain rfl : k = ne := by omega
     have HX2 := Lib.hid (HX_59.out.trans hx)
     clear hx
     go_wp2_with fail
     go_ret
     exact ⟨rfl, HX2.out⟩
end Go.Proofs.YtablhmobekmflaaGreatDoor