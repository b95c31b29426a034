/- Laid together: The walks of comment.Counts and of the reference's. Arguments of chapter 14 (and 12), opened: a remark, numbers, strings. The walk of the law CommentLists. Arguments that are rates, spans, small numbers, booleans and lists of drifts, opened. -/
import Derived.Test.YtagfedbdakmlgaaGreatDoorLi14
import Derived.Test.YtagfedbdakmlgaaGreatDoorLi08
import Derived.Test.YtagfedbdakmlgaaGreatDoorLi10
import Derived.Test.YtagfedbdakmlgaaGreatDoorLi18
import Derived.Test.YtagfedbdakmlgaaGreatDoorLi12
import Derived.Test.YtagfedbdakmlgaaGreatDoorLi15
import Derived.Test.YtagfedbdakmlgaaGreatDoorLi20
import Derived.Test.YtagfedbdakmlgaaGreatDoorLi11
import Derived.Test.YtagfedbdakmlgaaGreatDoorLi01
import Derived.Test.YtagfedbdakmlgaaGreatDoorLi09
import Derived.OpenShut

/-! CntsD -/
namespace Go.Proofs.YtagfedbdakmlgaaGreatDoor
set_option linter.unusedVariables false
set_option linter.unusedSimpArgs false
open Go.RowKit
def nLo (l : List Com) : Nat := (l.filter fun c => c.lost).length
def nDn (l : List Com) : Nat := (l.filter fun c => !c.lost && c.done).length
def nOp (l : List Com) : Nat := (openL l).length
theorem nLo_le (l : List Com) : nLo l ≤ l.length := List.length_filter_le _ _
theorem nDn_le (l : List Com) : nDn l ≤ l.length := List.length_filter_le _ _
theorem nOp_le (l : List Com) : nOp l ≤ l.length := List.length_filter_le _ _
theorem cnt_step3 {l : List Com} {k : Nat} {x : Com} (hx : l[k]? = some x) :
    (x.lost = true → nOp (l.take (k + 1)) = nOp (l.take k) ∧ nDn (l.take (k + 1)) = nDn (l.take k) ∧ nLo (l.take (k + 1)) = nLo (l.take k) + 1) ∧
    (x.lost = false → x.done = true → nOp (l.take (k + 1)) = nOp (l.take k) ∧ nDn (l.take (k + 1)) = nDn (l.take k) + 1 ∧ nLo (l.take (k + 1)) = nLo (l.take k)) ∧
    (x.lost = false → x.done = false → nOp (l.take (k + 1)) = nOp (l.take k) + 1 ∧ nDn (l.take (k + 1)) = nDn (l.take k) ∧ nLo (l.take (k + 1)) = nLo (l.take k)) := by
  rw [take_snoc' l k x hx]
  unfold nOp nDn nLo openL Com.gone
  simp only [List.filter_append, List.length_append]
  refine ⟨fun h => ?_, fun h h' => ?_, fun h h' => ?_⟩ <;> simp [*]
def Doc.cOp (d : Doc) : Int := if d.err ≠ 0 then 0 else ((nOp d.coms : Nat) : Int)
def Doc.cDn (d : Doc) : Int := if d.err ≠ 0 then 0 else ((nDn d.coms : Nat) : Int)
def Doc.cLo (d : Doc) : Int := if d.err ≠ 0 then 0 else ((nLo d.coms : Nat) : Int)
def CtLoop (l : List Com) (n : Nat) (w : World) (v2 v3 v4 i : Value) (wr : World) : Prop := ∃ k : Nat, k ≤ n ∧ v2 = .int .i64 (nOp (l.take k)) ∧ v3 = .int .i64 (nDn (l.take k)) ∧ v4 = .int .i64 (nLo (l.take k)) ∧ i = .int .i64 k ∧ Ext w wr
theorem results_tmp3 {P : Program} {fn : Func} {x y z : Tmp} {tmps : Array Value} {w : World} (h : fn.results = #[.tmp x, .tmp y, .tmp z]) : (results fn tmps).run P w = .ok (.tuple #[tmps.getD x undef, tmps.getD y undef, tmps.getD z undef]) w := by
  simp [results, h]
set_option maxRecDepth 100000 in
set_option maxHeartbeats 4000000 in
theorem CCounts_any (d : Doc) (h : DocH) (w : World) (hE : Env w) (hat : DocAt w d h) (hf : DocFit d) (hrn : h.rn ≤ 9223372036854775807) (hn : h.en ≤ 1000000) (hcn : h.cn ≤ 1000000) :
    Calls Tryz.prog 55 #[.agg (d.cells h)] w fun en w' => en = .returned (.tuple #[.int .i64 d.cOp, .int .i64 d.cDn, .int .i64 d.cLo]) ∧ Ext w w' := by
  obtain ⟨W1, hW1⟩ : ∃ W1, W1 = w.alloc (.cells (d.cells h) 27) := ⟨_, rfl⟩
  have HX : Hid (Ext w W1) := by show Ext _ _; rw [hW1]; exact (Ext.refl w).alloc _
  have HB : Hid (Blk W1 w.heap.size 27 (d.cells h)) := by show Blk _ _ _ _; rw [hW1]; exact Blk.new w _ _
  have HCk := Lib.hid (DCheck_any d h W1 (hE.ext HX.out) (hat.ext HX.out) hf hrn hn (by omega))
  have HV1 : d.err ≠ 0 → d.cOp = 0 ∧ d.cDn = 0 ∧ d.cLo = 0 := fun h => by unfold Doc.cOp Doc.cDn Doc.cLo; rw [if_pos h, if_pos h, if_pos h]; exact ⟨rfl, rfl, rfl⟩
  have HV2 : d.err = 0 → d.cOp = ((nOp d.coms : Nat) : Int) ∧ d.cDn = ((nDn d.coms : Nat) : Int) ∧ d.cLo = ((nLo d.coms : Nat) : Int) := fun h => by
    have h' : ¬ d.err ≠ 0 := by simpa using h
    unfold Doc.cOp Doc.cDn Doc.cLo; rw [if_neg h', if_neg h', if_neg h']; exact ⟨rfl, rfl, rfl⟩
  have HAt := Lib.hid hat
  clear hE hat hf hrn
  obtain ⟨hra, nr, hrc, hea, hen, hec, hca, nc, hcc⟩ := h
  unfold Doc.cells at HB HCk hW1 ⊢
  dsimp only at HB HCk hW1 hn hcn ⊢
  go_enter Tryz.func55, Tryz.ntmps55
  go_upto_region 1 with fail
  rw [← hW1]
  clear hW1
  go_wp2_with (refine wpList_loadB rfl 27 (.tmp 1) rfl (w.heap.size) 27 _ _ (by exact rfl) (by exact HB.out) Tryz.underlying27 rfl (by exact size_docI) ?_)
  refine HCk.out.mono ?_
  rintro en w2 ⟨rfl, hx2⟩
  have HX2 := Lib.hid (HX.out.trans hx2)
  have HB2 := Lib.hid (HB.out.ext hx2)
  clear hx2 HX HB HCk
  by_cases he : d.err = 0
  case neg =>
    have hne : (d.err != 0) = true := by simpa using he
    have HV := Lib.hid (HV1 he)
    clear he HV1 HV2
    go_wp2_with fail
    refine bodyPost_ret (v := .tuple #[.int .i64 0, .int .i64 0, .int .i64 0]) ?_ rfl ⟨by rw [HV.out.1, HV.out.2.1, HV.out.2.2], HX2.out⟩
    first | rfl | (simp [results, Tryz.results55]; done) | exact results_tmp3 _ _ _ _
  have HV := Lib.hid (HV2 he)
  rw [he]
  clear he HV1 HV2
  have hcb := fun o => HB2.out.cell o
  go_wp2_with fail
  clear hcb
  go_loopw [2, 3, 4, 13] (fun v2 v3 v4 i wr => CtLoop d.coms nc w2 v2 v3 v4 i wr) (fun _ _ _ i _ => nc - (intOf i).toNat)
  case atStart => exact ⟨0, Nat.zero_le _, rfl, rfl, rfl, rfl, Ext.refl _⟩
  case round =>
    obtain ⟨k, hk, rfl, rfl, rfl, rfl, hx⟩ := hrel
    have hl0 : d.coms.length = nc := HAt.out.coms.len
    have hb1 := nOp_le (d.coms.take k)
    have hb2 := nDn_le (d.coms.take k)
    have hb3 := nLo_le (d.coms.take k)
    have hbt : (d.coms.take k).length ≤ k := by rw [List.length_take]; omega
    by_cases hlt : k < nc
    · obtain ⟨b, off, x, hcA, hxx, c0, c1, c2, c3, c4, c5, c6, c7⟩ := (HAt.out.coms.ext (HX2.out.trans hx)).at8 hlt
      subst hcA
      have hk0 : (0 : Int) ≤ (k : Int) := by omega
      have hk1 : (k : Int) < (nc : Int) := by omega
      have HS := Lib.hid (cnt_step3 hxx)
      clear hxx
      go_upto_region 7 with fail
      clear c0 c1 c2 c3 c4 c5 c6 c7
      have HX1 := Lib.hid (hx.alloc (.cells #[.int .i64 x.id, .int .i64 x.ev, .int .i64 x.fr, .int .i64 x.til, .string x.author, .string x.text, .bool x.done, .bool x.lost] 78))
      have HBx := Lib.hid (Blk.new wr 78 #[.int .i64 x.id, .int .i64 x.ev, .int .i64 x.fr, .int .i64 x.til, .string x.author, .string x.text, .bool x.done, .bool x.lost])
      obtain ⟨Wx, hWx⟩ : ∃ Wx, Wx = wr.alloc (.cells #[.int .i64 x.id, .int .i64 x.ev, .int .i64 x.fr, .int .i64 x.til, .string x.author, .string x.text, .bool x.done, .bool x.lost] 78) := ⟨_, rfl⟩
      rw [← hWx] at HX1 HBx ⊢
      clear hWx
      have hcx := fun o => HBx.out.cell o
      generalize nOp (d.coms.take k) = p1 at *
      generalize nDn (d.coms.take k) = p2 at *
      generalize nLo (d.coms.take k) = p3 at *
      cases h2 : x.lost with
      | true =>
        rw [h2] at hcx
        have HS2 := Lib.hid (HS.out.1 h2)
        clear h2
        go_wp2_with fail
        exact ⟨⟨k + 1, by omega, by rw [HS2.out.1], by rw [HS2.out.2.1], by rw [HS2.out.2.2]; go_num, by go_num, HX1.out⟩, by simp [intOf]; omega⟩
      | false =>
        cases h1 : x.done with
        | true =>
          rw [h2, h1] at hcx
          have HS2 := Lib.hid (HS.out.2.1 h2 h1)
          clear h2 h1
          go_wp2_with fail
          exact ⟨⟨k + 1, by omega, by rw [HS2.out.1], by rw [HS2.out.2.1]; go_num, by rw [HS2.out.2.2], by go_num, HX1.out⟩, by simp [intOf]; omega⟩
        | false =>
          rw [h2, h1] at hcx
          have HS2 := Lib.hid (HS.out.2.2 h2 h1)
          clear h2 h1
          go_wp2_with fail
          exact ⟨⟨k + 1, by omega, by rw [HS2.out.1]; go_num, by rw [HS2.out.2.1], by rw [HS2.out.2.2], by go_num, HX1.out⟩, by simp [intOf]; omega⟩
    · obtain rfl : k = nc := by omega
      have ht : d.coms.take k = d.coms := List.take_of_length_le (by omega)
      rw [ht] at *
      have HX7 := Lib.hid (HX2.out.trans hx)
      go_wp2_with fail
      refine bodyPost_ret (v := .tuple #[.int .i64 (nOp d.coms), .int .i64 (nDn d.coms), .int .i64 (nLo d.coms)]) ?_ rfl ⟨by rw [HV.out.1, HV.out.2.1, HV.out.2.2], HX7.out⟩
      first | rfl | (simp [results, Tryz.results55]; done) | exact results_tmp3 _ _ _ _
set_option maxRecDepth 100000 in
set_option maxHeartbeats 4000000 in
theorem R14Counts_any (d : Doc) (h : DocH) (w : World) (hE : Env w) (hat : DocAt w d h) (hf : DocFit d) (hrn : h.rn ≤ 9223372036854775807) (hn : h.en ≤ 1000000) (hcn : h.cn ≤ 1000000) :
    Calls Tryz.prog 56 #[.agg (d.cells h)] w fun en w' => en = .returned (.tuple #[.int .i64 d.cOp, .int .i64 d.cDn, .int .i64 d.cLo]) ∧ Ext w w' := by
  obtain ⟨W1, hW1⟩ : ∃ W1, W1 = w.alloc (.cells (d.cells h) 27) := ⟨_, rfl⟩
  have HX : Hid (Ext w W1) := by show Ext _ _; rw [hW1]; exact (Ext.refl w).alloc _
  have HB : Hid (Blk W1 w.heap.size 27 (d.cells h)) := by show Blk _ _ _ _; rw [hW1]; exact Blk.new w _ _
  have HCk := Lib.hid (R12Check_any d h W1 (hE.ext HX.out) (hat.ext HX.out) hf hrn hn (by omega))
  have HV1 : d.err ≠ 0 → d.cOp = 0 ∧ d.cDn = 0 ∧ d.cLo = 0 := fun h => by unfold Doc.cOp Doc.cDn Doc.cLo; rw [if_pos h, if_pos h, if_pos h]; exact ⟨rfl, rfl, rfl⟩
  have HV2 : d.err = 0 → d.cOp = ((nOp d.coms : Nat) : Int) ∧ d.cDn = ((nDn d.coms : Nat) : Int) ∧ d.cLo = ((nLo d.coms : Nat) : Int) := fun h => by
    have h' : ¬ d.err ≠ 0 := by simpa using h
    unfold Doc.cOp Doc.cDn Doc.cLo; rw [if_neg h', if_neg h', if_neg h']; exact ⟨rfl, rfl, rfl⟩
  have HAt := Lib.hid hat
  clear hE hat hf hrn
  obtain ⟨hra, nr, hrc, hea, hen, hec, hca, nc, hcc⟩ := h
  unfold Doc.cells at HB HCk hW1 ⊢
  dsimp only at HB HCk hW1 hn hcn ⊢
  go_enter Tryz.func56, Tryz.ntmps56
  go_upto_region 1 with fail
  rw [← hW1]
  clear hW1
  go_wp2_with (refine wpList_loadB rfl 27 (.tmp 1) rfl (w.heap.size) 27 _ _ (by exact rfl) (by exact HB.out) Tryz.underlying27 rfl (by exact size_docI) ?_)
  refine HCk.out.mono ?_
  rintro en w2 ⟨rfl, hx2⟩
  have HX2 := Lib.hid (HX.out.trans hx2)
  have HB2 := Lib.hid (HB.out.ext hx2)
  clear hx2 HX HB HCk
  by_cases he : d.err = 0
  case neg =>
    have hne : (d.err != 0) = true := by simpa using he
    have HV := Lib.hid (HV1 he)
    clear he HV1 HV2
    go_wp2_with fail
    refine bodyPost_ret (v := .tuple #[.int .i64 0, .int .i64 0, .int .i64 0]) ?_ rfl ⟨by rw [HV.out.1, HV.out.2.1, HV.out.2.2], HX2.out⟩
    first | rfl | (simp [results, Tryz.results56]; done) | exact results_tmp3 _ _ _ _
  have HV := Lib.hid (HV2 he)
  rw [he]
  clear he HV1 HV2
  have hcb := fun o => HB2.out.cell o
  go_wp2_with fail
  clear hcb
  go_loopw [2, 3, 4, 13] (fun v2 v3 v4 i wr => CtLoop d.coms nc w2 v2 v3 v4 i wr) (fun _ _ _ i _ => nc - (intOf i).toNat)
  case atStart => exact ⟨0, Nat.zero_le _, rfl, rfl, rfl, rfl, Ext.refl _⟩
  case round =>
    obtain ⟨k, hk, rfl, rfl, rfl, rfl, hx⟩ := hrel
    have hl0 : d.coms.length = nc := HAt.out.coms.len
    have hb1 := nOp_le (d.coms.take k)
    have hb2 := nDn_le (d.coms.take k)
    have hb3 := nLo_le (d.coms.take k)
    have hbt : (d.coms.take k).length ≤ k := by rw [List.length_take]; omega
    by_cases hlt : k < nc
    · obtain ⟨b, off, x, hcA, hxx, c0, c1, c2, c3, c4, c5, c6, c7⟩ := (HAt.out.coms.ext (HX2.out.trans hx)).at8 hlt
      subst hcA
      have hk0 : (0 : Int) ≤ (k : Int) := by omega
      have hk1 : (k : Int) < (nc : Int) := by omega
      have HS := Lib.hid (cnt_step3 hxx)
      clear hxx
      go_upto_region 7 with fail
      clear c0 c1 c2 c3 c4 c5 c6 c7
      have HX1 := Lib.hid (hx.alloc (.cells #[.int .i64 x.id, .int .i64 x.ev, .int .i64 x.fr, .int .i64 x.til, .string x.author, .string x.text, .bool x.done, .bool x.lost] 78))
      have HBx := Lib.hid (Blk.new wr 78 #[.int .i64 x.id, .int .i64 x.ev, .int .i64 x.fr, .int .i64 x.til, .string x.author, .string x.text, .bool x.done, .bool x.lost])
      obtain ⟨Wx, hWx⟩ : ∃ Wx, Wx = wr.alloc (.cells #[.int .i64 x.id, .int .i64 x.ev, .int .i64 x.fr, .int .i64 x.til, .string x.author, .string x.text, .bool x.done, .bool x.lost] 78) := ⟨_, rfl⟩
      rw [← hWx] at HX1 HBx ⊢
      clear hWx
      have hcx := fun o => HBx.out.cell o
      generalize nOp (d.coms.take k) = p1 at *
      generalize nDn (d.coms.take k) = p2 at *
      generalize nLo (d.coms.take k) = p3 at *
      cases h2 : x.lost with
      | true =>
        rw [h2] at hcx
        have HS2 := Lib.hid (HS.out.1 h2)
        clear h2
        go_wp2_with fail
        exact ⟨⟨k + 1, by omega, by rw [HS2.out.1], by rw [HS2.out.2.1], by rw [HS2.out.2.2]; go_num, by go_num, HX1.out⟩, by simp [intOf]; omega⟩
      | false =>
        cases h1 : x.done with
        | true =>
          rw [h2, h1] at hcx
          have HS2 := Lib.hid (HS.out.2.1 h2 h1)
          clear h2 h1
          go_wp2_with fail
          exact ⟨⟨k + 1, by omega, by rw [HS2.out.1], by rw [HS2.out.2.1]; go_num, by rw [HS2.out.2.2], by go_num, HX1.out⟩, by simp [intOf]; omega⟩
        | false =>
          rw [h2, h1] at hcx
          have HS2 := Lib.hid (HS.out.2.2 h2 h1)
          clear h2 h1
          go_wp2_with fail
          exact ⟨⟨k + 1, by omega, by rw [HS2.out.1]; go_num, by rw [HS2.out.2.1], by rw [HS2.out.2.2], by go_num, HX1.out⟩, by simp [intOf]; omega⟩
    · obtain rfl : k = nc := by omega
      have ht : d.coms.take k = d.coms := List.take_of_length_le (by omega)
      rw [ht] at *
      have HX7 := Lib.hid (HX2.out.trans hx)
      go_wp2_with fail
      refine bodyPost_ret (v := .tuple #[.int .i64 (nOp d.coms), .int .i64 (nDn d.coms), .int .i64 (nLo d.coms)]) ?_ rfl ⟨by rw [HV.out.1, HV.out.2.1, HV.out.2.2], HX7.out⟩
      first | rfl | (simp [results, Tryz.results56]; done) | exact results_tmp3 _ _ _ _
end Go.Proofs.YtagfedbdakmlgaaGreatDoor

/-! OpenC -/
namespace Go.Proofs.YtagfedbdakmlgaaGreatDoor
set_option linter.unusedVariables false
set_option linter.unusedSimpArgs false
open Go.RowKit Go.ChangeShapes Go.WideShapes Go.ChangeAt
set_option maxRecDepth 100000
/-- the lists of a document of one's own are short -/
def DocShort (d : Doc) : Prop := d.regs.length ≤ 16 ∧ d.evs.length ≤ 1000000 ∧ d.coms.length ≤ 1000000
theorem DocOwn.short {w : World} {L : Nat} {d : Doc} {h : DocH} (o : DocOwn w L d h) (s : DocShort d) : h.rn ≤ 1000000000 ∧ h.en ≤ 1000000000 ∧ h.cn ≤ 1000000000 := by
  have h1 := o.rlen
  have h2 := o.evs.len
  have h3 := o.clen
  obtain ⟨s1, s2, s3⟩ := s
  omega
end Go.Proofs.YtagfedbdakmlgaaGreatDoor

/-! LawLists14 -/
namespace Go.Proofs.YtagfedbdakmlgaaGreatDoor
set_option linter.unusedVariables false
set_option linter.unusedSimpArgs false
open Go.RowKit
theorem opn_count (d : Doc) : d.cOp = ((d.opn.length : Nat) : Int) := by
  unfold Doc.cOp Doc.opn
  split
  · rfl
  · rw [List.length_map, (srtC_perm _ _).length_eq]; rfl
theorem opn_len (d : Doc) : d.opn.length ≤ d.coms.length := by
  unfold Doc.opn
  split
  · exact Nat.zero_le _
  · rw [List.length_map, (srtC_perm _ _).length_eq]; exact List.length_filter_le _ _
set_option maxRecDepth 100000 in
set_option maxHeartbeats 8000000 in
theorem CommentLists_any (d : Doc) (h : DocH) (w : World) (hE : Env w) (hat : DocAt w d h) (hi : DocIn d h) :
    Calls Tryz.prog 9 #[.agg (d.cells h)] w fun en w' => en = .returned (.bool true) ∧ Ext w w' := by
  have HX : Hid (Ext w (w.alloc (.cells (d.cells h) 27))) := (Ext.refl w).alloc _
  have HB : Hid (Blk (w.alloc (.cells (d.cells h) 27)) w.heap.size 27 (d.cells h)) := Blk.new w _ _
  have HEn := Lib.hid hE
  have HO1 := Lib.hid (fun w' (hx : Ext w w') => COpen_any d h w' (hE.ext hx) (hat.ext hx) hi.fit hi.rn hi.en hi.cn)
  have HO2 := Lib.hid (fun w' (hx : Ext w w') => R14Open_any d h w' (hE.ext hx) (hat.ext hx) hi.fit hi.rn hi.en hi.cn)
  have HC1 := Lib.hid (fun w' (hx : Ext w w') => CCounts_any d h w' (hE.ext hx) (hat.ext hx) hi.fit hi.rn hi.en hi.cn)
  have HC2 := Lib.hid (fun w' (hx : Ext w w') => R14Counts_any d h w' (hE.ext hx) (hat.ext hx) hi.fit hi.rn hi.en hi.cn)
  have HLn : Hid (d.cOp = ((d.opn.length : Nat) : Int)) := opn_count d
  have HLb : Hid (d.opn.length ≤ 1000000) := by
    show _ ≤ _
    have h1 := opn_len d
    have h2 := hat.coms.len
    have h3 := hi.cn
    omega
  clear hE hat hi
  unfold Doc.cells at HX HB HO1 HO2 HC1 HC2
  unfold OpnPost at HO1 HO2
  obtain ⟨hra, nr, hrc, hea, hen, hec, hca, nc, hcc⟩ := h
  dsimp only at *
  unfold Doc.cells
  dsimp only
  generalize d.opn = AL at *
  generalize d.cOp = o1 at *
  generalize d.cDn = o2 at *
  generalize d.cLo = o3 at *
  go_enter Tryz.func9, Tryz.ntmps9
  go_wp2_with fail
  refine (awake14_any _ (HEn.out.ext HX.out)).mono ?_
  rintro en w_1 ⟨rfl, hx_2⟩
  have HX_3 := Lib.hid (HX.out.trans hx_2)
  have HB_4 := Lib.hid (HB.out.ext hx_2)
  clear hx_2 HX HB
  go_upto_region 3 with fail
  have hST : QSt [(fun (u : Value) (w : World) => ∃ A c, u = .slice A AL.length c ∧ IntsAt w A AL.length AL ∧ AL.length ≤ c), (fun (u : Value) (w : World) => ∃ A c, u = .slice A AL.length c ∧ IntsAt w A AL.length AL ∧ AL.length ≤ c), (fun (u : Value) (w : World) => ∃ A c, u = .slice A AL.length c ∧ IntsAt w A AL.length AL ∧ AL.length ≤ c), (fun (u : Value) (w : World) => ∃ A c, u = .slice A AL.length c ∧ IntsAt w A AL.length AL ∧ AL.length ≤ c)] := by
    have h0 : ∀ (u : Value) (w w' : World), Ext w w' → (fun (u : Value) (w : World) => ∃ A c, u = .slice A AL.length c ∧ IntsAt w A AL.length AL ∧ AL.length ≤ c) u w → (fun (u : Value) (w : World) => ∃ A c, u = .slice A AL.length c ∧ IntsAt w A AL.length AL ∧ AL.length ≤ c) u w' := by
      rintro u w w' hx ⟨A, c, h1, h2, h3⟩
      exact ⟨A, c, h1, h2.ext hx, h3⟩
    intro p hp u w w' hx h
    simp only [List.mem_cons, List.not_mem_nil, or_false] at hp
    rcases hp with rfl | rfl | rfl | rfl <;> exact h0 u w w' hx h
  refine wp_region_links [some 14, some 15, some 16, some 17, some 3, some 4] [[], [0], [], [2, 1], [1, 3, 0, 1], [3, 4, 0, 1, 2, 3, 4]] [1, 3, 4, 5] [.agg #[.string d.title, .string d.lang, .int .u8 d.rate, .bool d.drop, .int .i64 d.last, .slice hra nr hrc, .slice hea hen hec, .slice hca nc hcc], undef, .agg #[.string d.title, .string d.lang, .int .u8 d.rate, .bool d.drop, .int .i64 d.last, .slice hra nr hrc, .slice hea hen hec, .slice hca nc hcc], undef, undef, undef] (QJ [(fun (u : Value) (w : World) => ∃ A c, u = .slice A AL.length c ∧ IntsAt w A AL.length AL ∧ AL.length ≤ c), (fun (u : Value) (w : World) => ∃ A c, u = .slice A AL.length c ∧ IntsAt w A AL.length AL ∧ AL.length ≤ c), (fun (u : Value) (w : World) => ∃ A c, u = .slice A AL.length c ∧ IntsAt w A AL.length AL ∧ AL.length ≤ c), (fun (u : Value) (w : World) => ∃ A c, u = .slice A AL.length c ∧ IntsAt w A AL.length AL ∧ AL.length ≤ c)] w_1) (by kernel_rfl) (by kernel_rfl) (by kernel_rfl) (by kernel_rfl) (by kernel_rfl) (by kernel_rfl) (by kernel_rfl) (by decide) ?_ ?_ ?_ ?_
  · exact QJ.start _ w_1
  · intro i o ho hc a w' us K' hJ hF hlim hk
    match i, ho with
    | 0, ho =>
      simp only [List.getElem?_toArray, List.getElem?_cons_zero, List.getElem?_cons_succ, Option.some.injEq] at ho
      subst ho
      have e1 := hF.old 1 (.pointer (some ⟨w.heap.size, 0, none⟩)) rfl rfl
      exact wp_loadBk 27 (.tmp 1) rfl _ 27 _ _ e1 (HB_4.out.ext hJ.ext) Tryz.underlying27 rfl (by exact size_docI) hk
    | 1, ho => simp at hc
    | 2, ho =>
      simp only [List.getElem?_toArray, List.getElem?_cons_zero, List.getElem?_cons_succ, Option.some.injEq] at ho
      subst ho
      have e1 := hF.old 1 (.pointer (some ⟨w.heap.size, 0, none⟩)) rfl rfl
      exact wp_loadBk 27 (.tmp 1) rfl _ 27 _ _ e1 (HB_4.out.ext hJ.ext) Tryz.underlying27 rfl (by exact size_docI) hk
    | 3, ho => simp at hc
    | 4, ho => simp at hc
    | 5, ho => simp at hc
    | i + 6, ho => simp at ho
  · intro p c' o hp ho a w' us K' hl hJ hF hk
    match p, hp with
    | 0, hp =>
      obtain rfl : 1 = c' := by simpa using hp
      simp only [List.getElem?_toArray, List.getElem?_cons_zero, List.getElem?_cons_succ, Option.some.injEq] at ho
      subst ho
      obtain rfl : us = [] := List.eq_nil_of_length_eq_zero hl
      have e14 := hF.pure 0 14 (.agg #[.string d.title, .string d.lang, .int .u8 d.rate, .bool d.drop, .int .i64 d.last, .slice hra nr hrc, .slice hea hen hec, .slice hca nc hcc]) rfl rfl rfl rfl
      refine wp_call1 rfl e14 Tryz.call53 (HO1.out w' (HX_3.out.trans hJ.ext)) ?_
      rintro en w2 ⟨A9, c9, rfl, h9, hc9, hx9⟩
      exact ⟨_, rfl, hk _ w2 (hJ.push hST hx9 (fun p hp => by cases hp; exact ⟨A9, c9, rfl, h9, hc9⟩))⟩
    | 1, hp =>
      obtain rfl : 3 = c' := by simpa using hp
      simp only [List.getElem?_toArray, List.getElem?_cons_zero, List.getElem?_cons_succ, Option.some.injEq] at ho
      subst ho
      obtain ⟨u0, rfl⟩ := list_1 hl
      have e16 := hF.pure 2 16 (.agg #[.string d.title, .string d.lang, .int .u8 d.rate, .bool d.drop, .int .i64 d.last, .slice hra nr hrc, .slice hea hen hec, .slice hca nc hcc]) rfl rfl rfl rfl
      refine wp_call1 rfl e16 Tryz.call54 (HO2.out w' (HX_3.out.trans hJ.ext)) ?_
      rintro en w2 ⟨A9, c9, rfl, h9, hc9, hx9⟩
      exact ⟨_, rfl, hk _ w2 (hJ.push hST hx9 (fun p hp => by cases hp; exact ⟨A9, c9, rfl, h9, hc9⟩))⟩
    | 2, hp =>
      obtain rfl : 4 = c' := by simpa using hp
      simp only [List.getElem?_toArray, List.getElem?_cons_zero, List.getElem?_cons_succ, Option.some.injEq] at ho
      subst ho
      obtain ⟨u0, u1, rfl⟩ := list_2 hl
      have e15 := hF.link 0 1 15 _ rfl rfl rfl rfl
      obtain ⟨A9, c9, hu9, hq9⟩ : (fun (u : Value) (w : World) => ∃ A c, u = .slice A AL.length c ∧ IntsAt w A AL.length AL ∧ AL.length ≤ c) u0 w' := hJ.val 0 u0 _ rfl rfl
      have HK := Lib.hid (hk u0 w' (hJ.push hST (Ext.refl _) (fun p hp => by cases hp; exact ⟨A9, c9, hu9, hq9⟩)))
      clear hk hF hJ
      rw [hu9] at HK
      rw [hu9] at e15
      simp only [Act.eval] at e15
      go_simp
      exact HK.out
    | 3, hp =>
      obtain rfl : 5 = c' := by simpa using hp
      simp only [List.getElem?_toArray, List.getElem?_cons_zero, List.getElem?_cons_succ, Option.some.injEq] at ho
      subst ho
      obtain ⟨u0, u1, u2, rfl⟩ := list_3 hl
      have e17 := hF.link 1 3 17 _ rfl rfl rfl rfl
      obtain ⟨A9, c9, hu9, hq9⟩ : (fun (u : Value) (w : World) => ∃ A c, u = .slice A AL.length c ∧ IntsAt w A AL.length AL ∧ AL.length ≤ c) u1 w' := hJ.val 1 u1 _ rfl rfl
      have HK := Lib.hid (hk u1 w' (hJ.push hST (Ext.refl _) (fun p hp => by cases hp; exact ⟨A9, c9, hu9, hq9⟩)))
      clear hk hF hJ
      rw [hu9] at HK
      rw [hu9] at e17
      simp only [Act.eval] at e17
      go_simp
      exact HK.out
    | p + 4, hp => simp at hp
  intro us w93 hl hJ
  obtain ⟨u0, u1, u2, u3, rfl⟩ := list_4 hl
  first | (rename_i hK; refine hK _ _ ?_; clear hK) | (rename_i hK hK_1; refine hK _ _ ?_; clear hK) | (rename_i hK hK_1 hK_2; refine hK _ _ ?_; clear hK) | (rename_i hK hK_1 hK_2 hK_3; refine hK _ _ ?_; clear hK)
  generalize hL : frameL _ _ _ _ = L
  obtain rfl : L = [(14, .agg #[.string d.title, .string d.lang, .int .u8 d.rate, .bool d.drop, .int .i64 d.last, .slice hra nr hrc, .slice hea hen hec, .slice hca nc hcc]), (15, u0), (16, .agg #[.string d.title, .string d.lang, .int .u8 d.rate, .bool d.drop, .int .i64 d.last, .slice hra nr hrc, .slice hea hen hec, .slice hca nc hcc]), (17, u1), (3, u2), (4, u3)] := hL.symm.trans (by kernel_rfl)
  clear hL hl
  simp only [Act.put, List.foldl_cons, List.foldl_nil, List.setIfInBounds_toArray, List.set_cons_zero, List.set_cons_succ]
  obtain ⟨A3a, c3a, hu2, hq3a⟩ : (fun (u : Value) (w : World) => ∃ A c, u = .slice A AL.length c ∧ IntsAt w A AL.length AL ∧ AL.length ≤ c) u2 w93 := hJ.val 2 u2 _ rfl rfl
  obtain ⟨A3b, c3b, hu3, hq3b⟩ : (fun (u : Value) (w : World) => ∃ A c, u = .slice A AL.length c ∧ IntsAt w A AL.length AL ∧ AL.length ≤ c) u3 w93 := hJ.val 3 u3 _ rfl rfl
  subst hu2 hu3
  have hxJ := hJ.ext
  clear hJ
  have HX_5 := Lib.hid (HX_3.out.trans hxJ)
  have HB_6 := Lib.hid (HB_4.out.ext hxJ)
  clear hxJ HX_3 HB_4
  have HQa := Lib.hid hq3a.1
  have HQb := Lib.hid hq3b.1
  have hAL := HLb.out
  clear hq3a hq3b hST
  go_wp2_with fail
  go_loopw [25] (fun i wr => ∃ k : Nat, k ≤ AL.length ∧ i = .int .i64 k ∧ Ext w93 wr) (fun i _ => AL.length - (intOf i).toNat)
  case atStart => exact ⟨0, Nat.zero_le _, rfl, Ext.refl _⟩
  case round =>
    obtain ⟨k, hk, rfl, hx⟩ := hrel
    by_cases hlt : k < AL.length
    · obtain ⟨b1, q1, x1, hA1, hx1, r1⟩ := (HQa.out.ext hx).cell hlt
      obtain ⟨b2, q2, x2, hA2, hx2, r2⟩ := (HQb.out.ext hx).cell hlt
      rw [hx1] at hx2
      obtain rfl := Option.some.inj hx2
      subst hA1 hA2
      clear hx1 hx2
      go_upto_region 9 with fail
      go_quiet (fail)
      go_wp2_with fail
      exact ⟨⟨k + 1, by omega, by go_num, hx.drewN _⟩, by simp [intOf]; omega⟩
    obtain rfl : k = AL.length := by omega
    clear hlt hk
    have HX_7 := Lib.hid (HX_5.out.trans hx)
    have HB_8 := Lib.hid (HB_6.out.ext hx)
    clear hx HX_5 HB_6
    go_wp2_with (refine wpList_loadB rfl 27 (.tmp 1) rfl (w.heap.size) 27 _ _ (by exact rfl) (by exact HB_8.out) Tryz.underlying27 rfl (by exact size_docI) ?_)
    refine (HC1.out _ HX_7.out).mono ?_
    rintro en w_9 ⟨rfl, hx_10⟩
    have HX_11 := Lib.hid (HX_7.out.trans hx_10)
    have HB_12 := Lib.hid (HB_8.out.ext hx_10)
    clear hx_10 HX_7 HB_8
    go_wp2_with (refine wpList_loadB rfl 27 (.tmp 1) rfl (w.heap.size) 27 _ _ (by exact rfl) (by exact HB_12.out) Tryz.underlying27 rfl (by exact size_docI) ?_)
    refine (HC2.out _ HX_11.out).mono ?_
    rintro en w_13 ⟨rfl, hx_14⟩
    have HX_15 := Lib.hid (HX_11.out.trans hx_14)
    have HB_16 := Lib.hid (HB_12.out.ext hx_14)
    clear hx_14 HX_11 HB_12
    have hln := HLn.out
    subst hln
    go_wp2_with fail
    go_ret
    exact ⟨by simp, HX_15.out⟩
end Go.Proofs.YtagfedbdakmlgaaGreatDoor

/-! OpenR -/
namespace Go.Proofs.YtagfedbdakmlgaaGreatDoor
set_option linter.unusedVariables false
set_option linter.unusedSimpArgs false
open Go.RowKit Go.ChangeShapes Go.WideShapes Go.ChangeAt
set_option maxRecDepth 100000
end Go.Proofs.YtagfedbdakmlgaaGreatDoor
