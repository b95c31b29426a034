/- The walk of the law package's awake: the chapter's examples. -/
import Derived.Test.YtcgflkmkdpgchaaDoorAwakeA
namespace Go.Proofs.YtcgflkmkdpgchaaDoor
set_option linter.unusedVariables false
set_option linter.unusedSimpArgs false
open Go.RowKit

theorem wp_loadB {P : Program} {op : Oper} {a : Act} {w : World} {K : Act → World → Prop} {Q : Exit → Act → World → Prop} (ty : TypeId) (x : Operand) (ho : op.op = .load ty x) (g : Nat) (t : TypeId) (cs : Array Value) (d : TypeDesc) (hx : a.eval x = .pointer (some ⟨g, 0, none⟩))
    (hB : Blk w g t cs) (hu : P.underlying ty = some d) (hd : d.isRow = true) (hi : (P.info? ty).map (·.size) = some cs.size) (h : K (a.put op.dst (.agg cs)) w) : op.wp P a w K Q := by
  refine wp_load_mid ty x ho g 0 hx cs.toList d (fun j v hv => ?_) hu hd (by simpa using hi) (by simpa using h)
  rw [hB.cell]
  simpa using hv
theorem strs_new (w : World) (a b : ByteArray) : StrsAt (w.alloc (.cells #[.string a, .string b] 9)) (some ⟨w.heap.size, 0, none⟩) 2 [a, b] := by
  have hB := Blk.new w 9 #[.string a, .string b]
  refine ⟨rfl, fun _ => ⟨_, _, rfl, fun i x hx j u hu => ?_⟩⟩
  rw [hB.cell]
  match i, j with
  | 0, 0 => simp at hx hu; subst hx hu; rfl
  | 1, 0 => simp at hx hu; subst hx hu; rfl
  | i + 2, _ => simp at hx
  | 0, j + 1 => simp at hu
  | 1, j + 1 => simp at hu
theorem e0_small : EvSmall e0 := by
  refine ⟨by decide, by decide, fun r hr => ?_⟩
  simp only [e0, List.mem_cons, List.not_mem_nil, or_false] at hr
  rcases hr with rfl | rfl <;> (refine ⟨by decide, fun x hx => ?_⟩; simp only [plainRow, List.mem_singleton] at hx; subst hx; exact ⟨by decide, by decide⟩)

set_option maxRecDepth 100000 in
set_option maxHeartbeats 8000000 in
theorem awake_any (w : World) (hE : Env w) : Calls Tryd.prog 8 #[] w fun en w' => en = .returned (.bool true) ∧ Ext w w' := by
  have HEn := Lib.hid hE
  clear hE
  have HS0 := Lib.hid (strs_new w ⟨#[72, 105, 44]⟩ ⟨#[121, 111, 117, 46]⟩)
  have HX0 := Lib.hid ((Ext.refl w).alloc (.cells #[.string ⟨#[72, 105, 44]⟩, .string ⟨#[121, 111, 117, 46]⟩] 9))
  go_enter Tryd.func8, Tryd.ntmps8
  go_wp2_with fail
  refine (rows_any _ _ _ _ _ HS0.out (by decide)).mono ?_
  rintro en w1 ⟨A1, c1, rfl, hnc1, hrf1, hx1⟩
  have HX1 := Lib.hid (HX0.out.trans hx1)
  have HRF := Lib.hid hrf1
  clear hx1 hrf1 HX0 HS0
  have HB1 := Lib.hid (Blk.new w1 27 evZero)
  unfold evZero at HB1
  go_wp2_with (first | (refine wpList_storeB rfl 27 (.tmp 1) (.tmp 13) rfl w1.heap.size 27 _ _ (by exact rfl) (by exact rfl) (by exact HB1.out) (by exact rfl) (by exact size_event) (by simp [Value.oneCell']) ?_) | (refine wpList_loadB rfl 27 (.tmp 1) rfl w1.heap.size 27 _ _ (by exact rfl) (by exact HB1.out.put _) Tryd.underlying27 rfl (by exact size_event) ?_))
  have hx2 := (HX1.out.alloc (.cells evZero 27)).put (g := w1.heap.size) HX1.out.size 27 (e0.cells A1 2 c1)
  have hrf2 := (HRF.out.ext ((Ext.refl w1).alloc (.cells evZero 27))).put (Blk.new w1 27 evZero) (e0.cells A1 2 c1) (by decide) (by decide)
  have hb2 := (Blk.new w1 27 evZero).put (e0.cells A1 2 c1)
  change Calls Tryd.prog 23 #[.agg (e0.cells A1 2 c1), .slice none 0 0] (putB (w1.alloc (.cells evZero 27)) w1.heap.size 27 (e0.cells A1 2 c1)) _
  have hg1 : w1.heap.size < (putB (w1.alloc (.cells evZero 27)) w1.heap.size 27 (e0.cells A1 2 c1)).heap.size := hb2.lt
  generalize putB (w1.alloc (.cells evZero 27)) w1.heap.size 27 (e0.cells A1 2 c1) = w2 at hx2 hrf2 hb2 hg1 ⊢
  generalize w1.heap.size = g1 at hb2 hg1 ⊢
  clear HX1 HRF HB1
  have hev : EvAt w2 e0 A1 2 c1 := ⟨hrf2.rows, hnc1, by decide⟩
  clear hrf2
  refine (Spots_any e0 A1 2 c1 none 0 0 [] w2 (HEn.out.ext hx2) hev e0_small.2.2 Sl.nil (by omega) (fun r hr => by cases hr)).mono ?_
  rintro en w3 ⟨A3, n3, c3, rfl, hsp, hnc3, hx3⟩
  rw [e0_spotsErr]
  rw [e0_spots] at hsp
  have HX3 := Lib.hid (hx2.trans hx3)
  have HEv := Lib.hid (hev.ext hx3)
  have HB := Lib.hid (hb2.ext hx3)
  have HSp := Lib.hid hsp
  obtain rfl : 2 = n3 := hsp.len
  clear hx2 hx3 hev hb2 hsp hg1 w2
  unfold Ev.cells at HB
  go_wp2_with (refine wpList_loadB rfl 27 (.tmp 1) rfl g1 27 _ _ (by exact rfl) (by exact HB.out) Tryd.underlying27 rfl (by exact size_event) ?_)
  refine (Split_any e0 A1 2 c1 30 1 2 w3 HEv.out).mono ?_
  rintro en w4 ⟨Aa, na, ca, Ab, nb, cb, rfl, hca, hcb, hna, hnb, hfa, hfb, hx4⟩
  have HX4 := Lib.hid (HX3.out.trans hx4)
  have HEv4 := Lib.hid (HEv.out.ext hx4)
  have HB4 := Lib.hid (HB.out.ext hx4)
  have HSp4 := Lib.hid (Sl.ext (Cells.stays _) HSp.out hx4)
  have HFa := Lib.hid hfa
  have HFb := Lib.hid hfb
  clear hx4 hfa hfb HEv HB HSp HX3
  rw [e0_split1]
  have hz1 := Lib.hid ((Blk.new w4 27 evZero).alloc (.cells evZero 27))
  have hz2 := Lib.hid (Blk.new' (w := w4.alloc (.cells evZero 27)) (g := w4.heap.size + 1) (t := 27) (cs := evZero) (by simp))
  have hxz := Lib.hid (((Ext.refl w4).alloc (.cells evZero 27)).alloc (.cells evZero 27))
  have hg1 : g1 < w4.heap.size := HB4.out.lt
  generalize ha0 : e0.splitL 30 1 2 = a0 at *
  generalize hb0 : e0.splitR 30 1 2 = b0 at *
  unfold Ev.cells
  unfold evZero at hz1 hz2 hxz
  go_wp2_with (first | (refine wpList_storeB rfl 27 (.tmp 4) (.tmp 22) rfl w4.heap.size 27 _ _ (by exact rfl) (by exact rfl) (by exact hz1.out) (by exact rfl) (by exact size_event) (by simp [Value.oneCell']) ?_) | (refine wpList_storeB rfl 27 (.tmp 5) (.tmp 23) rfl (w4.heap.size + 1) 27 _ _ (by exact rfl) (by exact rfl) (by exact hz2.out.put_other (by omega) _) (by exact rfl) (by exact size_event) (by simp [Value.oneCell']) ?_) | (refine wpList_loadB rfl 27 (.tmp 1) rfl g1 27 _ _ (by exact rfl) (by exact Blk.put_other (Blk.put_other (HB4.out.ext hxz.out) (by omega) _) (by omega) _) Tryd.underlying27 rfl (by exact size_event) ?_))
  change Calls Tryd.prog 9 #[.agg (e0.cells A1 2 c1), .int .i64 10, .int .i64 1, .int .i64 2] (two ((w4.alloc (.cells evZero 27)).alloc (.cells evZero 27)) w4.heap.size (w4.heap.size + 1) (a0.cells Aa na ca) (b0.cells Ab nb cb)) _
  have hx5 : Ext w4 (two ((w4.alloc (.cells evZero 27)).alloc (.cells evZero 27)) w4.heap.size (w4.heap.size + 1) (a0.cells Aa na ca) (b0.cells Ab nb cb)) := Ext.two hxz.out (Nat.le_refl _) (by omega)
  have hba : Blk (two ((w4.alloc (.cells evZero 27)).alloc (.cells evZero 27)) w4.heap.size (w4.heap.size + 1) (a0.cells Aa na ca) (b0.cells Ab nb cb)) w4.heap.size 27 (a0.cells Aa na ca) := two_a (by omega) hz1.out.lt _ _
  have hbb : Blk (two ((w4.alloc (.cells evZero 27)).alloc (.cells evZero 27)) w4.heap.size (w4.heap.size + 1) (a0.cells Aa na ca) (b0.cells Ab nb cb)) (w4.heap.size + 1) 27 (b0.cells Ab nb cb) := two_b hz2.out.lt _ _
  generalize two ((w4.alloc (.cells evZero 27)).alloc (.cells evZero 27)) w4.heap.size (w4.heap.size + 1) (a0.cells Aa na ca) (b0.cells Ab nb cb) = w5 at hx5 hba hbb ⊢
  have HX5 := Lib.hid (HX4.out.trans hx5)
  have HEv5 := Lib.hid (HEv4.out.ext hx5)
  have HB5 := Lib.hid (HB4.out.ext hx5)
  have HSp5 := Lib.hid (Sl.ext (Cells.stays _) HSp4.out hx5)
  have hla : a0.rows.length ≤ 2 := by rw [← ha0]; decide
  have hlb : b0.rows.length ≤ 2 := by rw [← hb0]; decide
  have HFa5 := Lib.hid (show EvAt w5 a0 Aa na ca from ⟨(HFa.out.ext hx5).rows, hca, by have := HFa.out.rows.len; omega⟩)
  have HFb5 := Lib.hid (show EvAt w5 b0 Ab nb cb from ⟨(HFb.out.ext hx5).rows, hcb, by have := HFb.out.rows.len; omega⟩)
  generalize w4.heap.size = ga at *
  clear HX4 HEv4 HB4 HSp4 HFa HFb hz1 hz2 hxz hx5 w4 w3 hla hlb
  refine (Split_any e0 A1 2 c1 10 1 2 w5 HEv5.out).mono ?_
  rintro en w6 ⟨Aa6, na6, ca6, Ab6, nb6, cb6, rfl, -, -, -, -, -, -, hx6⟩
  rw [e0_split2]
  generalize e0.splitL 10 1 2 = a1
  generalize e0.splitR 10 1 2 = b1
  have HX6 := Lib.hid (HX5.out.trans hx6)
  have HEv6 := Lib.hid (HEv5.out.ext hx6)
  have HB6 := Lib.hid (HB5.out.ext hx6)
  have HSp6 := Lib.hid (Sl.ext (Cells.stays _) HSp5.out hx6)
  have HFa6 := Lib.hid (HFa5.out.ext hx6)
  have HFb6 := Lib.hid (HFb5.out.ext hx6)
  have HBa := Lib.hid (hba.ext hx6)
  have HBb := Lib.hid (hbb.ext hx6)
  clear HX5 HEv5 HB5 HSp5 HFa5 HFb5 hba hbb hx6 w5
  have hz1 := Lib.hid ((Blk.new w6 27 evZero).alloc (.cells evZero 27))
  have hz2 := Lib.hid (Blk.new' (w := w6.alloc (.cells evZero 27)) (g := w6.heap.size + 1) (t := 27) (cs := evZero) (by simp))
  have hxz := Lib.hid (((Ext.refl w6).alloc (.cells evZero 27)).alloc (.cells evZero 27))
  have hg6 : g1 < w6.heap.size := HB6.out.lt
  unfold Ev.cells
  unfold evZero at hz1 hz2 hxz
  go_upto_region 5 with (first | (refine wpList_storeB rfl 27 (.tmp 7) (.tmp 28) rfl w6.heap.size 27 _ _ (by exact rfl) (by exact rfl) (by exact hz1.out) (by exact rfl) (by exact size_event) (by simp [Value.oneCell']) ?_) | (refine wpList_storeB rfl 27 (.tmp 8) (.tmp 29) rfl (w6.heap.size + 1) 27 _ _ (by exact rfl) (by exact rfl) (by exact hz2.out.put_other (by omega) _) (by exact rfl) (by exact size_event) (by simp [Value.oneCell']) ?_))
  change Code.wp Tryd.prog _ _ _ (two ((w6.alloc (.cells evZero 27)).alloc (.cells evZero 27)) w6.heap.size (w6.heap.size + 1) (a1.cells Aa6 na6 ca6) (b1.cells Ab6 nb6 cb6))
  have hx7 : Ext w6 (two ((w6.alloc (.cells evZero 27)).alloc (.cells evZero 27)) w6.heap.size (w6.heap.size + 1) (a1.cells Aa6 na6 ca6) (b1.cells Ab6 nb6 cb6)) := Ext.two hxz.out (Nat.le_refl _) (by omega)
  generalize two ((w6.alloc (.cells evZero 27)).alloc (.cells evZero 27)) w6.heap.size (w6.heap.size + 1) (a1.cells Aa6 na6 ca6) (b1.cells Ab6 nb6 cb6) = w7 at hx7 ⊢
  have HX7 := Lib.hid (HX6.out.trans hx7)
  have HEv7 := Lib.hid (HEv6.out.ext hx7)
  have HB7 := Lib.hid (HB6.out.ext hx7)
  have HSp7 := Lib.hid (Sl.ext (Cells.stays _) HSp6.out hx7)
  have HFa7 := Lib.hid (HFa6.out.ext hx7)
  have HFb7 := Lib.hid (HFb6.out.ext hx7)
  have HBa7 := Lib.hid (HBa.out.ext hx7)
  have HBb7 := Lib.hid (HBb.out.ext hx7)
  clear HX6 HEv6 HB6 HSp6 HFa6 HFb6 HBa HBb hz1 hz2 hxz hx7
  simp only [List.append]
  go_wp2_with (refine wpList_loadB rfl 27 (.tmp 1) rfl g1 27 _ _ (by exact rfl) (by exact HB7.out) Tryd.underlying27 rfl (by exact size_event) ?_)
  refine (ECheck_any e0 A1 2 c1 none 0 0 [] w7 (HEn.out.ext HX7.out) HEv7.out e0_small Sl.nil (by omega) (fun r hr => by cases hr)).mono ?_
  rintro en w8 ⟨rfl, hx8⟩
  rw [e0_err]
  have HX8 := Lib.hid (HX7.out.trans hx8)
  have HEv8 := Lib.hid (HEv7.out.ext hx8)
  have HB8 := Lib.hid (HB7.out.ext hx8)
  have HSp8 := Lib.hid (Sl.ext (Cells.stays _) HSp7.out hx8)
  have HFa8 := Lib.hid (HFa7.out.ext hx8)
  have HFb8 := Lib.hid (HFb7.out.ext hx8)
  have HBa8 := Lib.hid (HBa7.out.ext hx8)
  have HBb8 := Lib.hid (HBb7.out.ext hx8)
  clear HX7 HEv7 HB7 HSp7 HFa7 HFb7 HBa7 HBb7 hx8 hg6
  have hc8 : ∀ o, w8.cell? ⟨g1, o, none⟩ = (#[.int .i64 1, .int .i64 10, .int .i64 50, .string ⟨#[]⟩, .int .u8 1, .string ⟨#[]⟩, .slice A1 2 c1] : Array Value)[o]? := fun o => HB8.out.cell o
  go_wp2_with fail
  refine (ELen_any e0 A1 2 c1 w8 (HEn.out.ext HX8.out) HEv8.out e0_small.2.2 (by decide)).mono ?_
  rintro en w9 ⟨rfl, hx9⟩
  rw [e0_len]
  have HX9 := Lib.hid (HX8.out.trans hx9)
  have HSp9 := Lib.hid (Sl.ext (Cells.stays _) HSp8.out hx9)
  have HFa9 := Lib.hid (HFa8.out.ext hx9)
  have HFb9 := Lib.hid (HFb8.out.ext hx9)
  have HBa9 := Lib.hid (HBa8.out.ext hx9)
  have HBb9 := Lib.hid (HBb8.out.ext hx9)
  clear HX8 HEv8 HB8 HSp8 HFa8 HFb8 HBa8 HBb8 hx9 hc8
  obtain ⟨bs, os, rfl, hsp⟩ : ∃ b o, A3 = some ⟨b, o, none⟩ ∧ ∀ i x, ([⟨13, 14, 3⟩, ⟨14, 14, 4⟩] : List Spot)[i]? = some x → Cells Spot.cells w9 b (o + i * 3) x := HSp9.out.2 (by omega)
  have hs0 := hsp 0 _ rfl
  have hs1 := hsp 1 _ rfl
  have hs00 := hs0 0 _ rfl
  have hs01 := hs0 1 _ rfl
  have hs02 := hs0 2 _ rfl
  have hs10 := hs1 0 _ rfl
  have hs11 := hs1 1 _ rfl
  have hs12 := hs1 2 _ rfl
  simp only [Nat.zero_mul, Nat.add_zero, Nat.one_mul, Nat.add_assoc, Nat.reduceAdd] at hs00 hs01 hs02 hs10 hs11 hs12
  clear hsp hs0 hs1 HSp9
  obtain rfl : a0 = eA := ha0.symm.trans e0_eA
  obtain rfl : b0 = eB := hb0.symm.trans e0_eB
  have hca9 : ∀ o, w9.cell? ⟨ga, o, none⟩ = (#[.int .i64 1, .int .i64 10, .int .i64 30, .string ⟨#[]⟩, .int .u8 1, .string ⟨#[]⟩, .slice Aa na ca] : Array Value)[o]? := fun o => HBa9.out.cell o
  go_wp2_with fail
  refine (EPlain_any eA Aa na ca w9 HFa9.out (by decide)).mono ?_
  rintro en w10 ⟨rfl, hx10⟩
  rw [eA_text]
  have HX10 := Lib.hid (HX9.out.trans hx10)
  have HFb10 := Lib.hid (HFb9.out.ext hx10)
  have HBb10 := Lib.hid (HBb9.out.ext hx10)
  clear HX9 HFa9 HFb9 HBa9 HBb9 hx10 hca9 hs00 hs01 hs02 hs10 hs11 hs12
  have hcb10 : ∀ o, w10.cell? ⟨ga + 1, o, none⟩ = (#[.int .i64 2, .int .i64 30, .int .i64 50, .string ⟨#[]⟩, .int .u8 1, .string ⟨#[]⟩, .slice Ab nb cb] : Array Value)[o]? := fun o => HBb10.out.cell o
  go_wp2_with fail
  refine (EPlain_any eB Ab nb cb w10 HFb10.out (by decide)).mono ?_
  rintro en w11 ⟨rfl, hx11⟩
  rw [eB_text]
  have HX11 := Lib.hid (HX10.out.trans hx11)
  have HBb11 := Lib.hid (HBb10.out.ext hx11)
  clear HX10 HFb10 HBb10 hx11 hcb10
  have hcb11 : ∀ o, w11.cell? ⟨ga + 1, o, none⟩ = (#[.int .i64 2, .int .i64 30, .int .i64 50, .string ⟨#[]⟩, .int .u8 1, .string ⟨#[]⟩, .slice Ab nb cb] : Array Value)[o]? := fun o => HBb11.out.cell o
  go_wp2_with fail
  go_ret
  exact ⟨rfl, HX11.out⟩
end Go.Proofs.YtcgflkmkdpgchaaDoor
